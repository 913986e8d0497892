/- Laid by a program of this session out of the seat's translation. -/
import Derived.Test.YtphghffdaceaoaaPHunkx0
namespace Go.Proofs.Ytphghffdaceaoaa.PHunk
open Go.RowKit Go.Proofs.YtphghffdaceaoaaW.PrintWords Go.Proofs.YtphghffdaceaoaaW.PrintLast Go.Proofs.YtphghffdaceaoaaW.PrintMore
attribute [local go_sem] max2_int min2_int max_two min_two max_three min_three max_four min_four   -- for this text's walks alone
set_option linter.unusedVariables false
set_option linter.unusedSimpArgs false
/-! ### r06_May: function 16 -/
mutual
def r06_May.l0 : Nat → List (S40) → Int → Int → Int → Int → Int → Option (Bool)
 | 0, _, _, _, _, _, _ => none
 | k + 1, x0, x1, x2, x7, x8, x9 => if x9 < (x0.length : Int) then (if 0 ≤ x9 then (if ((rd_T40 x0 x9).f1) < 0 then (r06_May.j1 k x0 x1 x2 x9 true ((rd_T40 x0 x9).f0) ((rd_T40 x0 x9).f1) ((rd_T40 x0 x9).f2) ((rd_T40 x0 x9).f3)) else (if ((rd_T40 x0 x9).f3) < 0 then (r06_May.j1 k x0 x1 x2 x9 true ((rd_T40 x0 x9).f0) ((rd_T40 x0 x9).f1) ((rd_T40 x0 x9).f2) ((rd_T40 x0 x9).f3)) else (if ((rd_T40 x0 x9).f1) = 0 then (if ((rd_T40 x0 x9).f3) = 0 then (r06_May.j1 k x0 x1 x2 x9 true ((rd_T40 x0 x9).f0) ((rd_T40 x0 x9).f1) ((rd_T40 x0 x9).f2) ((rd_T40 x0 x9).f3)) else (if ((rd_T40 x0 x9).f0) < x7 then (r06_May.j1 k x0 x1 x2 x9 true ((rd_T40 x0 x9).f0) ((rd_T40 x0 x9).f1) ((rd_T40 x0 x9).f2) ((rd_T40 x0 x9).f3)) else (if ((rd_T40 x0 x9).f2) < x8 then (r06_May.j1 k x0 x1 x2 x9 true ((rd_T40 x0 x9).f0) ((rd_T40 x0 x9).f1) ((rd_T40 x0 x9).f2) ((rd_T40 x0 x9).f3)) else (if (wrap64 (((rd_T40 x0 x9).f0) - x7)) = (wrap64 (((rd_T40 x0 x9).f2) - x8)) then (if x9 > 0 then (r06_May.j1 k x0 x1 x2 x9 (((rd_T40 x0 x9).f0) == x7) ((rd_T40 x0 x9).f0) ((rd_T40 x0 x9).f1) ((rd_T40 x0 x9).f2) ((rd_T40 x0 x9).f3)) else (r06_May.j1 k x0 x1 x2 x9 false ((rd_T40 x0 x9).f0) ((rd_T40 x0 x9).f1) ((rd_T40 x0 x9).f2) ((rd_T40 x0 x9).f3))) else (r06_May.j1 k x0 x1 x2 x9 true ((rd_T40 x0 x9).f0) ((rd_T40 x0 x9).f1) ((rd_T40 x0 x9).f2) ((rd_T40 x0 x9).f3)))))) else (if ((rd_T40 x0 x9).f0) < x7 then (r06_May.j1 k x0 x1 x2 x9 true ((rd_T40 x0 x9).f0) ((rd_T40 x0 x9).f1) ((rd_T40 x0 x9).f2) ((rd_T40 x0 x9).f3)) else (if ((rd_T40 x0 x9).f2) < x8 then (r06_May.j1 k x0 x1 x2 x9 true ((rd_T40 x0 x9).f0) ((rd_T40 x0 x9).f1) ((rd_T40 x0 x9).f2) ((rd_T40 x0 x9).f3)) else (if (wrap64 (((rd_T40 x0 x9).f0) - x7)) = (wrap64 (((rd_T40 x0 x9).f2) - x8)) then (if x9 > 0 then (r06_May.j1 k x0 x1 x2 x9 (((rd_T40 x0 x9).f0) == x7) ((rd_T40 x0 x9).f0) ((rd_T40 x0 x9).f1) ((rd_T40 x0 x9).f2) ((rd_T40 x0 x9).f3)) else (r06_May.j1 k x0 x1 x2 x9 false ((rd_T40 x0 x9).f0) ((rd_T40 x0 x9).f1) ((rd_T40 x0 x9).f2) ((rd_T40 x0 x9).f3))) else (r06_May.j1 k x0 x1 x2 x9 true ((rd_T40 x0 x9).f0) ((rd_T40 x0 x9).f1) ((rd_T40 x0 x9).f2) ((rd_T40 x0 x9).f3)))))))) else (none)) else (if (wrap64 (x1 - x7)) = (wrap64 (x2 - x8)) then (some (decide (x1 ≥ x7))) else (some false))
def r06_May.j1 : Nat → List (S40) → Int → Int → Int → Bool → Int → Int → Int → Int → Option (Bool)
 | 0, _, _, _, _, _, _, _, _, _ => none
 | k + 1, x0, x1, x2, x9, x71, x343000, x343001, x343002, x343003 => if x71 = true then (some false) else (if x343000 > x1 then (some false) else (if x343002 > x2 then (some false) else (if x343001 > (wrap64 (x1 - x343000)) then (some false) else (if x343003 > (wrap64 (x2 - x343002)) then (some false) else (r06_May.l0 k x0 x1 x2 (wrap64 (x343000 + x343001)) (wrap64 (x343002 + x343003)) (wrap64 (x9 + 1)))))))
end
def r06_May.f (k : Nat) (l0 : List (S40)) (a1 : Int) (a2 : Int) : Option (Bool) := r06_May.l0 k l0 a1 a2 0 0 0
theorem r06_May.mono_l : ∀ k, (∀ y0 y1 y2 y3 y4 y5, LeO (r06_May.l0 k y0 y1 y2 y3 y4 y5) (r06_May.l0 (k + 1) y0 y1 y2 y3 y4 y5)) ∧ (∀ y0 y1 y2 y3 y4 y5 y6 y7 y8, LeO (r06_May.j1 k y0 y1 y2 y3 y4 y5 y6 y7 y8) (r06_May.j1 (k + 1) y0 y1 y2 y3 y4 y5 y6 y7 y8))
 | 0 => ⟨fun _ _ _ _ _ _ r h => by simp [r06_May.l0] at h, fun _ _ _ _ _ _ _ _ _ r h => by simp [r06_May.j1] at h⟩
 | k + 1 => by
  obtain ⟨ih0, ih1⟩ := r06_May.mono_l k
  refine ⟨?_, ?_⟩
  ·intro y0 y1 y2 y3 y4 y5
   unfold r06_May.l0
   repeat' first
   | (with_reducible exact ih0 _ _ _ _ _ _)
   | (with_reducible exact ih1 _ _ _ _ _ _ _ _ _)
   | (with_reducible exact LeO.refl _)
   | (with_reducible exact LeO.none _)
   | (with_reducible refine LeO.ite ?_ ?_)
   | (with_reducible refine LeO.bind ?_ (fun _ => ?_))
   | exact ih0 _ _ _ _ _ _
   | exact ih1 _ _ _ _ _ _ _ _ _
   | exact LeO.none _
   | refine LeO.ite ?_ ?_
   | refine LeO.bind ?_ (fun _ => ?_)
  ·intro y0 y1 y2 y3 y4 y5 y6 y7 y8
   unfold r06_May.j1
   repeat' first
   | (with_reducible exact ih0 _ _ _ _ _ _)
   | (with_reducible exact ih1 _ _ _ _ _ _ _ _ _)
   | (with_reducible exact LeO.refl _)
   | (with_reducible exact LeO.none _)
   | (with_reducible refine LeO.ite ?_ ?_)
   | (with_reducible refine LeO.bind ?_ (fun _ => ?_))
   | exact ih0 _ _ _ _ _ _
   | exact ih1 _ _ _ _ _ _ _ _ _
   | exact LeO.none _
   | refine LeO.ite ?_ ?_
   | refine LeO.bind ?_ (fun _ => ?_)
theorem r06_May.mono : ∀ a0 a1 a2 k, LeO (r06_May.f k a0 a1 a2) (r06_May.f (k + 1) a0 a1 a2) := by
 intro a0 a1 a2 k
 obtain ⟨ih0, ih1⟩ := r06_May.mono_l k
 unfold r06_May.f
 repeat' first
   | (with_reducible exact ih0 _ _ _ _ _ _)
   | (with_reducible exact ih1 _ _ _ _ _ _ _ _ _)
   | (with_reducible exact LeO.refl _)
   | (with_reducible exact LeO.none _)
   | (with_reducible refine LeO.ite ?_ ?_)
   | (with_reducible refine LeO.bind ?_ (fun _ => ?_))
   | exact ih0 _ _ _ _ _ _
   | exact ih1 _ _ _ _ _ _ _ _ _
   | exact LeO.none _
   | refine LeO.ite ?_ ?_
   | refine LeO.bind ?_ (fun _ => ?_)
set_option maxHeartbeats 8000000 in
set_option maxRecDepth 100000 in
theorem r06_May.calls (k : Nat) (A0 : Option Addr) (c0 : Nat) (l0 : List (S40)) (a1 : Int) (a2 : Int) (r : Bool) (w : World) (hr0 : Kd.C k40 w A0 l0.length l0) (hc0 : l0.length ≤ c0) (h : r06_May.f k l0 a1 a2 = some r) :
  Calls Try.prog 16 #[.slice A0 l0.length c0, .int .i64 a1, .int .i64 a2] w fun e w' => e = .returned (.bool r) ∧ Below w.heap.size w w' := by
 have hu40 := Try.underlying40
 have HR0 := Zm hr0
 have HC0 := Zm hc0
 clear hr0 hc0
 have HB := Zm (Below.refl w.heap.size w)
 have H : (r06_May.l0 k l0 a1 a2 0 0 0) = some r := h
 clear h
 have H' := Zm H
 clear H
 go_enter Try.func16, Try.ntmps16
 go_wp2
 go_loopg [7, 8, 9] k (fun kq v7 v8 v9 w' => ∃ (x7_1 : Int) (x8_1 : Int) (x9_1 : Int), v7 = .int .i64 x7_1 ∧ v8 = .int .i64 x8_1 ∧ v9 = .int .i64 x9_1 ∧ Aside0 (r06_May.l0 kq l0 a1 a2 x7_1 x8_1 x9_1 = some r) ∧ Aside0 (kq ≤ k) ∧ Aside0 (Below w.heap.size w w'))
 case atStart => exact ⟨(0), (0), (0), (by first | rfl | (simp; done) | (simp [*]; done)), (by first | rfl | (simp; done) | (simp [*]; done)), (by first | rfl | (simp; done) | (simp [*]; done)), H', ⟨Nat.le_refl _⟩, ⟨by repeat (first | (with_reducible first | exact HB.out | apply below_alloc | apply Zd | apply below_drew1) | exact HB.out)⟩⟩
 case round =>
  clear H'
  try clear c1
  try clear p2
  obtain ⟨x7_1, x8_1, x9_1, rfl, rfl, rfl, HA, HK1, HB⟩ := hrel
  cases gk with
  | zero => exact absurd HA.out (by simp [r06_May.l0])
  | succ k1 =>
   have H := HA.out
   clear HA
   simp only [r06_May.l0] at H
   by_cases c4 : x9_1 < (l0.length : Int)
   ·rw [if_pos c4] at H
    have c4b0 : decide (x9_1 < (l0.length : Int)) = true := decide_eq_true c4
    clear c4
    by_cases c5 : 0 ≤ x9_1
    ·rw [if_pos c5] at H
     have c5b0 : decide (0 ≤ x9_1) = true := decide_eq_true c5
     clear c5
     have HC6 := Zm H
     clear H
     have p341 : 0 ≤ (x9_1 : Int) := Zo (by first | (with_reducible assumption) | assumption)
     have q341 : x9_1 < (l0.length : Int) := Zo (by first | (with_reducible assumption) | assumption)
     obtain ⟨ad341, e341, hx341_0, hx341_1, hx341_2, hx341_3⟩ := at_T40 HR0.out x9_1 p341 q341
     cases e341
     replace hx341_0 := (HB.out.cell (World.block_lt_of_cell? w _ hx341_0)).trans hx341_0
     replace hx341_1 := (HB.out.cell (World.block_lt_of_cell? w _ hx341_1)).trans hx341_1
     replace hx341_2 := (HB.out.cell (World.block_lt_of_cell? w _ hx341_2)).trans hx341_2
     replace hx341_3 := (HB.out.cell (World.block_lt_of_cell? w _ hx341_3)).trans hx341_3
     replace p341 := eq_true p341
     replace q341 := eq_true q341
     go_upto_region 7 with (first | ((with_reducible refine gate_dst (N := 10) rfl ?_); refine box_event ?hg (N := 10) ?hd (cs := #[.int .i64 0, .int .i64 0, .int .i64 0, .int .i64 0]) (t := 40) ?hr ?_; (case hd => rfl); (case hg => rfl); (case hr => first | (go_simp; done) | (go_simp; rfl)); intro gb342 hg w7 hbox hb; have n0_ := Zm (below_step (by repeat (first | (with_reducible first | exact HB.out | apply below_alloc | apply Zd | apply below_drew1) | exact HB.out)) hb); have n1_ := Zm (hbox); have n2_ := Zm ((by rw [hg]; exact (below_size (by repeat (first | (with_reducible first | exact HB.out | apply below_alloc | apply Zd | apply below_drew1) | exact HB.out))) : w.heap.size ≤ gb342)); have n3_ := Zm ((by rw [hg]; exact (below_size (by repeat (first | (with_reducible first | exact HB.out | apply below_alloc | apply Zd | apply below_drew1) | exact HB.out))) : w.heap.size ≤ gb342)); clear HB; have HB := n0_; have BK342 := n1_; have GW342 := n2_; have GE342 := n3_; clear n0_ n1_ n2_ n3_; clear hb hbox hg; have hcz8_0 : w7.cell? ⟨gb342, 0, none⟩ = some (.int .i64 0) := (blk_cell BK342.out 0).trans rfl; have hcz8_1 : w7.cell? ⟨gb342, 1, none⟩ = some (.int .i64 0) := (blk_cell BK342.out 1).trans rfl; have hcz8_2 : w7.cell? ⟨gb342, 2, none⟩ = some (.int .i64 0) := (blk_cell BK342.out 2).trans rfl; have hcz8_3 : w7.cell? ⟨gb342, 3, none⟩ = some (.int .i64 0) := (blk_cell BK342.out 3).trans rfl; have hfz8_0 := blk_frozen BK342.out 0; have hfz8_1 := blk_frozen BK342.out 1; have hfz8_2 := blk_frozen BK342.out 2; have hfz8_3 := blk_frozen BK342.out 3))
     (try simp only [Act.put, List.setIfInBounds_toArray, List.set_cons_zero, List.set_cons_succ])
     go_cut [71] (fun v71 wc => ∃ (kq : Nat) (x71_5 : Bool), v71 = .bool x71_5 ∧ Aside0 (r06_May.j1 kq l0 a1 a2 x9_1 x71_5 ((rd_T40 l0 x9_1).f0) ((rd_T40 l0 x9_1).f1) ((rd_T40 l0 x9_1).f2) ((rd_T40 l0 x9_1).f3) = some r) ∧ Aside0 (kq ≤ k1) ∧ Aside0 (wc.heap[gb342]? = some (.cells #[.int .i64 ((rd_T40 l0 x9_1).f0), .int .i64 ((rd_T40 l0 x9_1).f1), .int .i64 ((rd_T40 l0 x9_1).f2), .int .i64 ((rd_T40 l0 x9_1).f3)] 40 (0, 0))) ∧ Aside0 (Below w.heap.size w wc))
     case first =>
      have H := HC6.out
      clear HC6
      by_cases c9 : ((rd_T40 l0 x9_1).f1) < 0
      ·rw [if_pos c9] at H
       have c9b0 : decide (((rd_T40 l0 x9_1).f1) < 0) = true := decide_eq_true c9
       clear c9
       (first | rw [c9b0] | (simp only [i64_w, i32_w]; rw [c9b0]) | skip)
       have H' := Zm H
       clear H
       have hcz10_0 : w7.cell? ⟨gb342, 0, none⟩ = some (.int .i64 0) := (blk_cell BK342.out 0).trans rfl
       have hcz10_1 : w7.cell? ⟨gb342, 1, none⟩ = some (.int .i64 0) := (blk_cell BK342.out 1).trans rfl
       have hcz10_2 : w7.cell? ⟨gb342, 2, none⟩ = some (.int .i64 0) := (blk_cell BK342.out 2).trans rfl
       have hcz10_3 : w7.cell? ⟨gb342, 3, none⟩ = some (.int .i64 0) := (blk_cell BK342.out 3).trans rfl
       have hfz10_0 := blk_frozen BK342.out 0
       have hfz10_1 := blk_frozen BK342.out 1
       have hfz10_2 := blk_frozen BK342.out 2
       have hfz10_3 := blk_frozen BK342.out 3
       go_wp2
       go_meet
       case rel => exact ⟨_, (true), (by first | rfl | (simp; done) | (simp [*]; done)), H', ⟨by have := HK1.out; first | omega | exact Nat.le_refl _⟩, ⟨by (with_reducible repeat (first | refine blk_drewN ?_ _ | refine blk_drew ?_ | refine blk_alloc ?_ _)); refine blk_put (cs := #[.int .i64 ((rd_T40 l0 x9_1).f0), .int .i64 ((rd_T40 l0 x9_1).f1), .int .i64 ((rd_T40 l0 x9_1).f2), .int .i64 0]) ?_ 3 _ rfl; (with_reducible repeat (first | refine blk_drewN ?_ _ | refine blk_drew ?_ | refine blk_alloc ?_ _)); refine blk_put (cs := #[.int .i64 ((rd_T40 l0 x9_1).f0), .int .i64 ((rd_T40 l0 x9_1).f1), .int .i64 0, .int .i64 0]) ?_ 2 _ rfl; (with_reducible repeat (first | refine blk_drewN ?_ _ | refine blk_drew ?_ | refine blk_alloc ?_ _)); refine blk_put (cs := #[.int .i64 ((rd_T40 l0 x9_1).f0), .int .i64 0, .int .i64 0, .int .i64 0]) ?_ 1 _ rfl; (with_reducible repeat (first | refine blk_drewN ?_ _ | refine blk_drew ?_ | refine blk_alloc ?_ _)); refine blk_put (cs := #[.int .i64 0, .int .i64 0, .int .i64 0, .int .i64 0]) ?_ 0 _ rfl; (with_reducible repeat (first | refine blk_drewN ?_ _ | refine blk_drew ?_ | refine blk_alloc ?_ _)); exact BK342.out⟩, ⟨by repeat (first | (with_reducible first | exact HB.out | apply below_alloc | apply Zd | apply below_drew1 | refine below_set ?_ GE342.out) | exact HB.out)⟩⟩
      ·rw [if_neg c9] at H
       have c9b0 : decide (((rd_T40 l0 x9_1).f1) < 0) = false := decide_eq_false c9
       clear c9
       (first | rw [c9b0] | (simp only [i64_w, i32_w]; rw [c9b0]) | skip)
       by_cases c11 : ((rd_T40 l0 x9_1).f3) < 0
       ·rw [if_pos c11] at H
        have c11b0 : decide (((rd_T40 l0 x9_1).f3) < 0) = true := decide_eq_true c11
        clear c11
        have H' := Zm H
        clear H
        have hcz12_0 : w7.cell? ⟨gb342, 0, none⟩ = some (.int .i64 0) := (blk_cell BK342.out 0).trans rfl
        have hcz12_1 : w7.cell? ⟨gb342, 1, none⟩ = some (.int .i64 0) := (blk_cell BK342.out 1).trans rfl
        have hcz12_2 : w7.cell? ⟨gb342, 2, none⟩ = some (.int .i64 0) := (blk_cell BK342.out 2).trans rfl
        have hcz12_3 : w7.cell? ⟨gb342, 3, none⟩ = some (.int .i64 0) := (blk_cell BK342.out 3).trans rfl
        have hfz12_0 := blk_frozen BK342.out 0
        have hfz12_1 := blk_frozen BK342.out 1
        have hfz12_2 := blk_frozen BK342.out 2
        have hfz12_3 := blk_frozen BK342.out 3
        go_wp2
        go_meet
        case rel => exact ⟨_, (true), (by first | rfl | (simp; done) | (simp [*]; done)), H', ⟨by have := HK1.out; first | omega | exact Nat.le_refl _⟩, ⟨by (with_reducible repeat (first | refine blk_drewN ?_ _ | refine blk_drew ?_ | refine blk_alloc ?_ _)); refine blk_put (cs := #[.int .i64 ((rd_T40 l0 x9_1).f0), .int .i64 ((rd_T40 l0 x9_1).f1), .int .i64 ((rd_T40 l0 x9_1).f2), .int .i64 0]) ?_ 3 _ rfl; (with_reducible repeat (first | refine blk_drewN ?_ _ | refine blk_drew ?_ | refine blk_alloc ?_ _)); refine blk_put (cs := #[.int .i64 ((rd_T40 l0 x9_1).f0), .int .i64 ((rd_T40 l0 x9_1).f1), .int .i64 0, .int .i64 0]) ?_ 2 _ rfl; (with_reducible repeat (first | refine blk_drewN ?_ _ | refine blk_drew ?_ | refine blk_alloc ?_ _)); refine blk_put (cs := #[.int .i64 ((rd_T40 l0 x9_1).f0), .int .i64 0, .int .i64 0, .int .i64 0]) ?_ 1 _ rfl; (with_reducible repeat (first | refine blk_drewN ?_ _ | refine blk_drew ?_ | refine blk_alloc ?_ _)); refine blk_put (cs := #[.int .i64 0, .int .i64 0, .int .i64 0, .int .i64 0]) ?_ 0 _ rfl; (with_reducible repeat (first | refine blk_drewN ?_ _ | refine blk_drew ?_ | refine blk_alloc ?_ _)); exact BK342.out⟩, ⟨by repeat (first | (with_reducible first | exact HB.out | apply below_alloc | apply Zd | apply below_drew1 | refine below_set ?_ GE342.out) | exact HB.out)⟩⟩
       ·rw [if_neg c11] at H
        have c11b0 : decide (((rd_T40 l0 x9_1).f3) < 0) = false := decide_eq_false c11
        clear c11
        by_cases c13 : ((rd_T40 l0 x9_1).f1) = 0
        ·rw [if_pos c13] at H
         have c13b0 : (((rd_T40 l0 x9_1).f1) == 0) = true := beq_iff_eq.mpr c13
         have c13b1 : (((rd_T40 l0 x9_1).f1) != 0) = false := bne_eq_false_iff_eq.mpr c13
         clear c13
         by_cases c14 : ((rd_T40 l0 x9_1).f3) = 0
         ·rw [if_pos c14] at H
          have c14b0 : (((rd_T40 l0 x9_1).f3) == 0) = true := beq_iff_eq.mpr c14
          have c14b1 : (((rd_T40 l0 x9_1).f3) != 0) = false := bne_eq_false_iff_eq.mpr c14
          clear c14
          have H' := Zm H
          clear H
          have hcz15_0 : w7.cell? ⟨gb342, 0, none⟩ = some (.int .i64 0) := (blk_cell BK342.out 0).trans rfl
          have hcz15_1 : w7.cell? ⟨gb342, 1, none⟩ = some (.int .i64 0) := (blk_cell BK342.out 1).trans rfl
          have hcz15_2 : w7.cell? ⟨gb342, 2, none⟩ = some (.int .i64 0) := (blk_cell BK342.out 2).trans rfl
          have hcz15_3 : w7.cell? ⟨gb342, 3, none⟩ = some (.int .i64 0) := (blk_cell BK342.out 3).trans rfl
          have hfz15_0 := blk_frozen BK342.out 0
          have hfz15_1 := blk_frozen BK342.out 1
          have hfz15_2 := blk_frozen BK342.out 2
          have hfz15_3 := blk_frozen BK342.out 3
          go_wp2
          go_meet
          case rel => exact ⟨_, (true), (by first | rfl | (simp; done) | (simp [*]; done)), H', ⟨by have := HK1.out; first | omega | exact Nat.le_refl _⟩, ⟨by (with_reducible repeat (first | refine blk_drewN ?_ _ | refine blk_drew ?_ | refine blk_alloc ?_ _)); refine blk_put (cs := #[.int .i64 ((rd_T40 l0 x9_1).f0), .int .i64 ((rd_T40 l0 x9_1).f1), .int .i64 ((rd_T40 l0 x9_1).f2), .int .i64 0]) ?_ 3 _ rfl; (with_reducible repeat (first | refine blk_drewN ?_ _ | refine blk_drew ?_ | refine blk_alloc ?_ _)); refine blk_put (cs := #[.int .i64 ((rd_T40 l0 x9_1).f0), .int .i64 ((rd_T40 l0 x9_1).f1), .int .i64 0, .int .i64 0]) ?_ 2 _ rfl; (with_reducible repeat (first | refine blk_drewN ?_ _ | refine blk_drew ?_ | refine blk_alloc ?_ _)); refine blk_put (cs := #[.int .i64 ((rd_T40 l0 x9_1).f0), .int .i64 0, .int .i64 0, .int .i64 0]) ?_ 1 _ rfl; (with_reducible repeat (first | refine blk_drewN ?_ _ | refine blk_drew ?_ | refine blk_alloc ?_ _)); refine blk_put (cs := #[.int .i64 0, .int .i64 0, .int .i64 0, .int .i64 0]) ?_ 0 _ rfl; (with_reducible repeat (first | refine blk_drewN ?_ _ | refine blk_drew ?_ | refine blk_alloc ?_ _)); exact BK342.out⟩, ⟨by repeat (first | (with_reducible first | exact HB.out | apply below_alloc | apply Zd | apply below_drew1 | refine below_set ?_ GE342.out) | exact HB.out)⟩⟩
         ·rw [if_neg c14] at H
          have c14b0 : (((rd_T40 l0 x9_1).f3) == 0) = false := beq_eq_false_iff_ne.mpr c14
          have c14b1 : (((rd_T40 l0 x9_1).f3) != 0) = true := bne_iff_ne.mpr c14
          by_cases c16 : ((rd_T40 l0 x9_1).f0) < x7_1
          ·rw [if_pos c16] at H
           have c16b0 : decide (((rd_T40 l0 x9_1).f0) < x7_1) = true := decide_eq_true c16
           clear c16
           have H' := Zm H
           clear H
           have hcz17_0 : w7.cell? ⟨gb342, 0, none⟩ = some (.int .i64 0) := (blk_cell BK342.out 0).trans rfl
           have hcz17_1 : w7.cell? ⟨gb342, 1, none⟩ = some (.int .i64 0) := (blk_cell BK342.out 1).trans rfl
           have hcz17_2 : w7.cell? ⟨gb342, 2, none⟩ = some (.int .i64 0) := (blk_cell BK342.out 2).trans rfl
           have hcz17_3 : w7.cell? ⟨gb342, 3, none⟩ = some (.int .i64 0) := (blk_cell BK342.out 3).trans rfl
           have hfz17_0 := blk_frozen BK342.out 0
           have hfz17_1 := blk_frozen BK342.out 1
           have hfz17_2 := blk_frozen BK342.out 2
           have hfz17_3 := blk_frozen BK342.out 3
           go_wp2
           go_meet
           case rel => exact ⟨_, (true), (by first | rfl | (simp; done) | (simp [*]; done)), H', ⟨by have := HK1.out; first | omega | exact Nat.le_refl _⟩, ⟨by (with_reducible repeat (first | refine blk_drewN ?_ _ | refine blk_drew ?_ | refine blk_alloc ?_ _)); refine blk_put (cs := #[.int .i64 ((rd_T40 l0 x9_1).f0), .int .i64 ((rd_T40 l0 x9_1).f1), .int .i64 ((rd_T40 l0 x9_1).f2), .int .i64 0]) ?_ 3 _ rfl; (with_reducible repeat (first | refine blk_drewN ?_ _ | refine blk_drew ?_ | refine blk_alloc ?_ _)); refine blk_put (cs := #[.int .i64 ((rd_T40 l0 x9_1).f0), .int .i64 ((rd_T40 l0 x9_1).f1), .int .i64 0, .int .i64 0]) ?_ 2 _ rfl; (with_reducible repeat (first | refine blk_drewN ?_ _ | refine blk_drew ?_ | refine blk_alloc ?_ _)); refine blk_put (cs := #[.int .i64 ((rd_T40 l0 x9_1).f0), .int .i64 0, .int .i64 0, .int .i64 0]) ?_ 1 _ rfl; (with_reducible repeat (first | refine blk_drewN ?_ _ | refine blk_drew ?_ | refine blk_alloc ?_ _)); refine blk_put (cs := #[.int .i64 0, .int .i64 0, .int .i64 0, .int .i64 0]) ?_ 0 _ rfl; (with_reducible repeat (first | refine blk_drewN ?_ _ | refine blk_drew ?_ | refine blk_alloc ?_ _)); exact BK342.out⟩, ⟨by repeat (first | (with_reducible first | exact HB.out | apply below_alloc | apply Zd | apply below_drew1 | refine below_set ?_ GE342.out) | exact HB.out)⟩⟩
          ·rw [if_neg c16] at H
           have c16b0 : decide (((rd_T40 l0 x9_1).f0) < x7_1) = false := decide_eq_false c16
           clear c16
           by_cases c18 : ((rd_T40 l0 x9_1).f2) < x8_1
           ·rw [if_pos c18] at H
            have c18b0 : decide (((rd_T40 l0 x9_1).f2) < x8_1) = true := decide_eq_true c18
            clear c18
            have H' := Zm H
            clear H
            have hcz19_0 : w7.cell? ⟨gb342, 0, none⟩ = some (.int .i64 0) := (blk_cell BK342.out 0).trans rfl
            have hcz19_1 : w7.cell? ⟨gb342, 1, none⟩ = some (.int .i64 0) := (blk_cell BK342.out 1).trans rfl
            have hcz19_2 : w7.cell? ⟨gb342, 2, none⟩ = some (.int .i64 0) := (blk_cell BK342.out 2).trans rfl
            have hcz19_3 : w7.cell? ⟨gb342, 3, none⟩ = some (.int .i64 0) := (blk_cell BK342.out 3).trans rfl
            have hfz19_0 := blk_frozen BK342.out 0
            have hfz19_1 := blk_frozen BK342.out 1
            have hfz19_2 := blk_frozen BK342.out 2
            have hfz19_3 := blk_frozen BK342.out 3
            go_wp2
            go_meet
            case rel => exact ⟨_, (true), (by first | rfl | (simp; done) | (simp [*]; done)), H', ⟨by have := HK1.out; first | omega | exact Nat.le_refl _⟩, ⟨by (with_reducible repeat (first | refine blk_drewN ?_ _ | refine blk_drew ?_ | refine blk_alloc ?_ _)); refine blk_put (cs := #[.int .i64 ((rd_T40 l0 x9_1).f0), .int .i64 ((rd_T40 l0 x9_1).f1), .int .i64 ((rd_T40 l0 x9_1).f2), .int .i64 0]) ?_ 3 _ rfl; (with_reducible repeat (first | refine blk_drewN ?_ _ | refine blk_drew ?_ | refine blk_alloc ?_ _)); refine blk_put (cs := #[.int .i64 ((rd_T40 l0 x9_1).f0), .int .i64 ((rd_T40 l0 x9_1).f1), .int .i64 0, .int .i64 0]) ?_ 2 _ rfl; (with_reducible repeat (first | refine blk_drewN ?_ _ | refine blk_drew ?_ | refine blk_alloc ?_ _)); refine blk_put (cs := #[.int .i64 ((rd_T40 l0 x9_1).f0), .int .i64 0, .int .i64 0, .int .i64 0]) ?_ 1 _ rfl; (with_reducible repeat (first | refine blk_drewN ?_ _ | refine blk_drew ?_ | refine blk_alloc ?_ _)); refine blk_put (cs := #[.int .i64 0, .int .i64 0, .int .i64 0, .int .i64 0]) ?_ 0 _ rfl; (with_reducible repeat (first | refine blk_drewN ?_ _ | refine blk_drew ?_ | refine blk_alloc ?_ _)); exact BK342.out⟩, ⟨by repeat (first | (with_reducible first | exact HB.out | apply below_alloc | apply Zd | apply below_drew1 | refine below_set ?_ GE342.out) | exact HB.out)⟩⟩
           ·rw [if_neg c18] at H
            have c18b0 : decide (((rd_T40 l0 x9_1).f2) < x8_1) = false := decide_eq_false c18
            clear c18
            by_cases c20 : (wrap64 (((rd_T40 l0 x9_1).f0) - x7_1)) = (wrap64 (((rd_T40 l0 x9_1).f2) - x8_1))
            ·rw [if_pos c20] at H
             have c20b0 : ((wrap64 (((rd_T40 l0 x9_1).f0) - x7_1)) == (wrap64 (((rd_T40 l0 x9_1).f2) - x8_1))) = true := beq_iff_eq.mpr c20
             have c20b1 : ((wrap64 (((rd_T40 l0 x9_1).f0) - x7_1)) != (wrap64 (((rd_T40 l0 x9_1).f2) - x8_1))) = false := bne_eq_false_iff_eq.mpr c20
             clear c20
             by_cases c21 : x9_1 > 0
             ·rw [if_pos c21] at H
              have c21b0 : decide (0 < x9_1) = true := decide_eq_true c21
              clear c21
              have H' := Zm H
              clear H
              have hcz22_0 : w7.cell? ⟨gb342, 0, none⟩ = some (.int .i64 0) := (blk_cell BK342.out 0).trans rfl
              have hcz22_1 : w7.cell? ⟨gb342, 1, none⟩ = some (.int .i64 0) := (blk_cell BK342.out 1).trans rfl
              have hcz22_2 : w7.cell? ⟨gb342, 2, none⟩ = some (.int .i64 0) := (blk_cell BK342.out 2).trans rfl
              have hcz22_3 : w7.cell? ⟨gb342, 3, none⟩ = some (.int .i64 0) := (blk_cell BK342.out 3).trans rfl
              have hfz22_0 := blk_frozen BK342.out 0
              have hfz22_1 := blk_frozen BK342.out 1
              have hfz22_2 := blk_frozen BK342.out 2
              have hfz22_3 := blk_frozen BK342.out 3
              go_wp2
              go_meet
              case rel => exact ⟨_, ((((rd_T40 l0 x9_1).f0) == x7_1)), (by first | rfl | (simp; done) | (simp [*]; done)), H', ⟨by have := HK1.out; first | omega | exact Nat.le_refl _⟩, ⟨by (with_reducible repeat (first | refine blk_drewN ?_ _ | refine blk_drew ?_ | refine blk_alloc ?_ _)); refine blk_put (cs := #[.int .i64 ((rd_T40 l0 x9_1).f0), .int .i64 ((rd_T40 l0 x9_1).f1), .int .i64 ((rd_T40 l0 x9_1).f2), .int .i64 0]) ?_ 3 _ rfl; (with_reducible repeat (first | refine blk_drewN ?_ _ | refine blk_drew ?_ | refine blk_alloc ?_ _)); refine blk_put (cs := #[.int .i64 ((rd_T40 l0 x9_1).f0), .int .i64 ((rd_T40 l0 x9_1).f1), .int .i64 0, .int .i64 0]) ?_ 2 _ rfl; (with_reducible repeat (first | refine blk_drewN ?_ _ | refine blk_drew ?_ | refine blk_alloc ?_ _)); refine blk_put (cs := #[.int .i64 ((rd_T40 l0 x9_1).f0), .int .i64 0, .int .i64 0, .int .i64 0]) ?_ 1 _ rfl; (with_reducible repeat (first | refine blk_drewN ?_ _ | refine blk_drew ?_ | refine blk_alloc ?_ _)); refine blk_put (cs := #[.int .i64 0, .int .i64 0, .int .i64 0, .int .i64 0]) ?_ 0 _ rfl; (with_reducible repeat (first | refine blk_drewN ?_ _ | refine blk_drew ?_ | refine blk_alloc ?_ _)); exact BK342.out⟩, ⟨by repeat (first | (with_reducible first | exact HB.out | apply below_alloc | apply Zd | apply below_drew1 | refine below_set ?_ GE342.out) | exact HB.out)⟩⟩
             ·rw [if_neg c21] at H
              have c21b0 : decide (0 < x9_1) = false := decide_eq_false c21
              clear c21
              have H' := Zm H
              clear H
              have hcz23_0 : w7.cell? ⟨gb342, 0, none⟩ = some (.int .i64 0) := (blk_cell BK342.out 0).trans rfl
              have hcz23_1 : w7.cell? ⟨gb342, 1, none⟩ = some (.int .i64 0) := (blk_cell BK342.out 1).trans rfl
              have hcz23_2 : w7.cell? ⟨gb342, 2, none⟩ = some (.int .i64 0) := (blk_cell BK342.out 2).trans rfl
              have hcz23_3 : w7.cell? ⟨gb342, 3, none⟩ = some (.int .i64 0) := (blk_cell BK342.out 3).trans rfl
              have hfz23_0 := blk_frozen BK342.out 0
              have hfz23_1 := blk_frozen BK342.out 1
              have hfz23_2 := blk_frozen BK342.out 2
              have hfz23_3 := blk_frozen BK342.out 3
              go_wp2
              go_meet
              case rel => exact ⟨_, (false), (by first | rfl | (simp; done) | (simp [*]; done)), H', ⟨by have := HK1.out; first | omega | exact Nat.le_refl _⟩, ⟨by (with_reducible repeat (first | refine blk_drewN ?_ _ | refine blk_drew ?_ | refine blk_alloc ?_ _)); refine blk_put (cs := #[.int .i64 ((rd_T40 l0 x9_1).f0), .int .i64 ((rd_T40 l0 x9_1).f1), .int .i64 ((rd_T40 l0 x9_1).f2), .int .i64 0]) ?_ 3 _ rfl; (with_reducible repeat (first | refine blk_drewN ?_ _ | refine blk_drew ?_ | refine blk_alloc ?_ _)); refine blk_put (cs := #[.int .i64 ((rd_T40 l0 x9_1).f0), .int .i64 ((rd_T40 l0 x9_1).f1), .int .i64 0, .int .i64 0]) ?_ 2 _ rfl; (with_reducible repeat (first | refine blk_drewN ?_ _ | refine blk_drew ?_ | refine blk_alloc ?_ _)); refine blk_put (cs := #[.int .i64 ((rd_T40 l0 x9_1).f0), .int .i64 0, .int .i64 0, .int .i64 0]) ?_ 1 _ rfl; (with_reducible repeat (first | refine blk_drewN ?_ _ | refine blk_drew ?_ | refine blk_alloc ?_ _)); refine blk_put (cs := #[.int .i64 0, .int .i64 0, .int .i64 0, .int .i64 0]) ?_ 0 _ rfl; (with_reducible repeat (first | refine blk_drewN ?_ _ | refine blk_drew ?_ | refine blk_alloc ?_ _)); exact BK342.out⟩, ⟨by repeat (first | (with_reducible first | exact HB.out | apply below_alloc | apply Zd | apply below_drew1 | refine below_set ?_ GE342.out) | exact HB.out)⟩⟩
            ·rw [if_neg c20] at H
             have c20b0 : ((wrap64 (((rd_T40 l0 x9_1).f0) - x7_1)) == (wrap64 (((rd_T40 l0 x9_1).f2) - x8_1))) = false := beq_eq_false_iff_ne.mpr c20
             have c20b1 : ((wrap64 (((rd_T40 l0 x9_1).f0) - x7_1)) != (wrap64 (((rd_T40 l0 x9_1).f2) - x8_1))) = true := bne_iff_ne.mpr c20
             have H' := Zm H
             clear H
             have hcz24_0 : w7.cell? ⟨gb342, 0, none⟩ = some (.int .i64 0) := (blk_cell BK342.out 0).trans rfl
             have hcz24_1 : w7.cell? ⟨gb342, 1, none⟩ = some (.int .i64 0) := (blk_cell BK342.out 1).trans rfl
             have hcz24_2 : w7.cell? ⟨gb342, 2, none⟩ = some (.int .i64 0) := (blk_cell BK342.out 2).trans rfl
             have hcz24_3 : w7.cell? ⟨gb342, 3, none⟩ = some (.int .i64 0) := (blk_cell BK342.out 3).trans rfl
             have hfz24_0 := blk_frozen BK342.out 0
             have hfz24_1 := blk_frozen BK342.out 1
             have hfz24_2 := blk_frozen BK342.out 2
             have hfz24_3 := blk_frozen BK342.out 3
             go_wp2
             go_meet
             case rel => exact ⟨_, (true), (by first | rfl | (simp; done) | (simp [*]; done)), H', ⟨by have := HK1.out; first | omega | exact Nat.le_refl _⟩, ⟨by (with_reducible repeat (first | refine blk_drewN ?_ _ | refine blk_drew ?_ | refine blk_alloc ?_ _)); refine blk_put (cs := #[.int .i64 ((rd_T40 l0 x9_1).f0), .int .i64 ((rd_T40 l0 x9_1).f1), .int .i64 ((rd_T40 l0 x9_1).f2), .int .i64 0]) ?_ 3 _ rfl; (with_reducible repeat (first | refine blk_drewN ?_ _ | refine blk_drew ?_ | refine blk_alloc ?_ _)); refine blk_put (cs := #[.int .i64 ((rd_T40 l0 x9_1).f0), .int .i64 ((rd_T40 l0 x9_1).f1), .int .i64 0, .int .i64 0]) ?_ 2 _ rfl; (with_reducible repeat (first | refine blk_drewN ?_ _ | refine blk_drew ?_ | refine blk_alloc ?_ _)); refine blk_put (cs := #[.int .i64 ((rd_T40 l0 x9_1).f0), .int .i64 0, .int .i64 0, .int .i64 0]) ?_ 1 _ rfl; (with_reducible repeat (first | refine blk_drewN ?_ _ | refine blk_drew ?_ | refine blk_alloc ?_ _)); refine blk_put (cs := #[.int .i64 0, .int .i64 0, .int .i64 0, .int .i64 0]) ?_ 0 _ rfl; (with_reducible repeat (first | refine blk_drewN ?_ _ | refine blk_drew ?_ | refine blk_alloc ?_ _)); exact BK342.out⟩, ⟨by repeat (first | (with_reducible first | exact HB.out | apply below_alloc | apply Zd | apply below_drew1 | refine below_set ?_ GE342.out) | exact HB.out)⟩⟩
        ·rw [if_neg c13] at H
         have c13b0 : (((rd_T40 l0 x9_1).f1) == 0) = false := beq_eq_false_iff_ne.mpr c13
         have c13b1 : (((rd_T40 l0 x9_1).f1) != 0) = true := bne_iff_ne.mpr c13
         by_cases c25 : ((rd_T40 l0 x9_1).f0) < x7_1
         ·rw [if_pos c25] at H
          have c25b0 : decide (((rd_T40 l0 x9_1).f0) < x7_1) = true := decide_eq_true c25
          clear c25
          have H' := Zm H
          clear H
          have hcz26_0 : w7.cell? ⟨gb342, 0, none⟩ = some (.int .i64 0) := (blk_cell BK342.out 0).trans rfl
          have hcz26_1 : w7.cell? ⟨gb342, 1, none⟩ = some (.int .i64 0) := (blk_cell BK342.out 1).trans rfl
          have hcz26_2 : w7.cell? ⟨gb342, 2, none⟩ = some (.int .i64 0) := (blk_cell BK342.out 2).trans rfl
          have hcz26_3 : w7.cell? ⟨gb342, 3, none⟩ = some (.int .i64 0) := (blk_cell BK342.out 3).trans rfl
          have hfz26_0 := blk_frozen BK342.out 0
          have hfz26_1 := blk_frozen BK342.out 1
          have hfz26_2 := blk_frozen BK342.out 2
          have hfz26_3 := blk_frozen BK342.out 3
          go_wp2
          go_meet
          case rel => exact ⟨_, (true), (by first | rfl | (simp; done) | (simp [*]; done)), H', ⟨by have := HK1.out; first | omega | exact Nat.le_refl _⟩, ⟨by (with_reducible repeat (first | refine blk_drewN ?_ _ | refine blk_drew ?_ | refine blk_alloc ?_ _)); refine blk_put (cs := #[.int .i64 ((rd_T40 l0 x9_1).f0), .int .i64 ((rd_T40 l0 x9_1).f1), .int .i64 ((rd_T40 l0 x9_1).f2), .int .i64 0]) ?_ 3 _ rfl; (with_reducible repeat (first | refine blk_drewN ?_ _ | refine blk_drew ?_ | refine blk_alloc ?_ _)); refine blk_put (cs := #[.int .i64 ((rd_T40 l0 x9_1).f0), .int .i64 ((rd_T40 l0 x9_1).f1), .int .i64 0, .int .i64 0]) ?_ 2 _ rfl; (with_reducible repeat (first | refine blk_drewN ?_ _ | refine blk_drew ?_ | refine blk_alloc ?_ _)); refine blk_put (cs := #[.int .i64 ((rd_T40 l0 x9_1).f0), .int .i64 0, .int .i64 0, .int .i64 0]) ?_ 1 _ rfl; (with_reducible repeat (first | refine blk_drewN ?_ _ | refine blk_drew ?_ | refine blk_alloc ?_ _)); refine blk_put (cs := #[.int .i64 0, .int .i64 0, .int .i64 0, .int .i64 0]) ?_ 0 _ rfl; (with_reducible repeat (first | refine blk_drewN ?_ _ | refine blk_drew ?_ | refine blk_alloc ?_ _)); exact BK342.out⟩, ⟨by repeat (first | (with_reducible first | exact HB.out | apply below_alloc | apply Zd | apply below_drew1 | refine below_set ?_ GE342.out) | exact HB.out)⟩⟩
         ·rw [if_neg c25] at H
          have c25b0 : decide (((rd_T40 l0 x9_1).f0) < x7_1) = false := decide_eq_false c25
          clear c25
          by_cases c27 : ((rd_T40 l0 x9_1).f2) < x8_1
          ·rw [if_pos c27] at H
           have c27b0 : decide (((rd_T40 l0 x9_1).f2) < x8_1) = true := decide_eq_true c27
           clear c27
           have H' := Zm H
           clear H
           have hcz28_0 : w7.cell? ⟨gb342, 0, none⟩ = some (.int .i64 0) := (blk_cell BK342.out 0).trans rfl
           have hcz28_1 : w7.cell? ⟨gb342, 1, none⟩ = some (.int .i64 0) := (blk_cell BK342.out 1).trans rfl
           have hcz28_2 : w7.cell? ⟨gb342, 2, none⟩ = some (.int .i64 0) := (blk_cell BK342.out 2).trans rfl
           have hcz28_3 : w7.cell? ⟨gb342, 3, none⟩ = some (.int .i64 0) := (blk_cell BK342.out 3).trans rfl
           have hfz28_0 := blk_frozen BK342.out 0
           have hfz28_1 := blk_frozen BK342.out 1
           have hfz28_2 := blk_frozen BK342.out 2
           have hfz28_3 := blk_frozen BK342.out 3
           go_wp2
           go_meet
           case rel => exact ⟨_, (true), (by first | rfl | (simp; done) | (simp [*]; done)), H', ⟨by have := HK1.out; first | omega | exact Nat.le_refl _⟩, ⟨by (with_reducible repeat (first | refine blk_drewN ?_ _ | refine blk_drew ?_ | refine blk_alloc ?_ _)); refine blk_put (cs := #[.int .i64 ((rd_T40 l0 x9_1).f0), .int .i64 ((rd_T40 l0 x9_1).f1), .int .i64 ((rd_T40 l0 x9_1).f2), .int .i64 0]) ?_ 3 _ rfl; (with_reducible repeat (first | refine blk_drewN ?_ _ | refine blk_drew ?_ | refine blk_alloc ?_ _)); refine blk_put (cs := #[.int .i64 ((rd_T40 l0 x9_1).f0), .int .i64 ((rd_T40 l0 x9_1).f1), .int .i64 0, .int .i64 0]) ?_ 2 _ rfl; (with_reducible repeat (first | refine blk_drewN ?_ _ | refine blk_drew ?_ | refine blk_alloc ?_ _)); refine blk_put (cs := #[.int .i64 ((rd_T40 l0 x9_1).f0), .int .i64 0, .int .i64 0, .int .i64 0]) ?_ 1 _ rfl; (with_reducible repeat (first | refine blk_drewN ?_ _ | refine blk_drew ?_ | refine blk_alloc ?_ _)); refine blk_put (cs := #[.int .i64 0, .int .i64 0, .int .i64 0, .int .i64 0]) ?_ 0 _ rfl; (with_reducible repeat (first | refine blk_drewN ?_ _ | refine blk_drew ?_ | refine blk_alloc ?_ _)); exact BK342.out⟩, ⟨by repeat (first | (with_reducible first | exact HB.out | apply below_alloc | apply Zd | apply below_drew1 | refine below_set ?_ GE342.out) | exact HB.out)⟩⟩
          ·rw [if_neg c27] at H
           have c27b0 : decide (((rd_T40 l0 x9_1).f2) < x8_1) = false := decide_eq_false c27
           clear c27
           by_cases c29 : (wrap64 (((rd_T40 l0 x9_1).f0) - x7_1)) = (wrap64 (((rd_T40 l0 x9_1).f2) - x8_1))
           ·rw [if_pos c29] at H
            have c29b0 : ((wrap64 (((rd_T40 l0 x9_1).f0) - x7_1)) == (wrap64 (((rd_T40 l0 x9_1).f2) - x8_1))) = true := beq_iff_eq.mpr c29
            have c29b1 : ((wrap64 (((rd_T40 l0 x9_1).f0) - x7_1)) != (wrap64 (((rd_T40 l0 x9_1).f2) - x8_1))) = false := bne_eq_false_iff_eq.mpr c29
            clear c29
            by_cases c30 : x9_1 > 0
            ·rw [if_pos c30] at H
             have c30b0 : decide (0 < x9_1) = true := decide_eq_true c30
             clear c30
             have H' := Zm H
             clear H
             have hcz31_0 : w7.cell? ⟨gb342, 0, none⟩ = some (.int .i64 0) := (blk_cell BK342.out 0).trans rfl
             have hcz31_1 : w7.cell? ⟨gb342, 1, none⟩ = some (.int .i64 0) := (blk_cell BK342.out 1).trans rfl
             have hcz31_2 : w7.cell? ⟨gb342, 2, none⟩ = some (.int .i64 0) := (blk_cell BK342.out 2).trans rfl
             have hcz31_3 : w7.cell? ⟨gb342, 3, none⟩ = some (.int .i64 0) := (blk_cell BK342.out 3).trans rfl
             have hfz31_0 := blk_frozen BK342.out 0
             have hfz31_1 := blk_frozen BK342.out 1
             have hfz31_2 := blk_frozen BK342.out 2
             have hfz31_3 := blk_frozen BK342.out 3
             go_wp2
             go_meet
             case rel => exact ⟨_, ((((rd_T40 l0 x9_1).f0) == x7_1)), (by first | rfl | (simp; done) | (simp [*]; done)), H', ⟨by have := HK1.out; first | omega | exact Nat.le_refl _⟩, ⟨by (with_reducible repeat (first | refine blk_drewN ?_ _ | refine blk_drew ?_ | refine blk_alloc ?_ _)); refine blk_put (cs := #[.int .i64 ((rd_T40 l0 x9_1).f0), .int .i64 ((rd_T40 l0 x9_1).f1), .int .i64 ((rd_T40 l0 x9_1).f2), .int .i64 0]) ?_ 3 _ rfl; (with_reducible repeat (first | refine blk_drewN ?_ _ | refine blk_drew ?_ | refine blk_alloc ?_ _)); refine blk_put (cs := #[.int .i64 ((rd_T40 l0 x9_1).f0), .int .i64 ((rd_T40 l0 x9_1).f1), .int .i64 0, .int .i64 0]) ?_ 2 _ rfl; (with_reducible repeat (first | refine blk_drewN ?_ _ | refine blk_drew ?_ | refine blk_alloc ?_ _)); refine blk_put (cs := #[.int .i64 ((rd_T40 l0 x9_1).f0), .int .i64 0, .int .i64 0, .int .i64 0]) ?_ 1 _ rfl; (with_reducible repeat (first | refine blk_drewN ?_ _ | refine blk_drew ?_ | refine blk_alloc ?_ _)); refine blk_put (cs := #[.int .i64 0, .int .i64 0, .int .i64 0, .int .i64 0]) ?_ 0 _ rfl; (with_reducible repeat (first | refine blk_drewN ?_ _ | refine blk_drew ?_ | refine blk_alloc ?_ _)); exact BK342.out⟩, ⟨by repeat (first | (with_reducible first | exact HB.out | apply below_alloc | apply Zd | apply below_drew1 | refine below_set ?_ GE342.out) | exact HB.out)⟩⟩
            ·rw [if_neg c30] at H
             have c30b0 : decide (0 < x9_1) = false := decide_eq_false c30
             clear c30
             have H' := Zm H
             clear H
             have hcz32_0 : w7.cell? ⟨gb342, 0, none⟩ = some (.int .i64 0) := (blk_cell BK342.out 0).trans rfl
             have hcz32_1 : w7.cell? ⟨gb342, 1, none⟩ = some (.int .i64 0) := (blk_cell BK342.out 1).trans rfl
             have hcz32_2 : w7.cell? ⟨gb342, 2, none⟩ = some (.int .i64 0) := (blk_cell BK342.out 2).trans rfl
             have hcz32_3 : w7.cell? ⟨gb342, 3, none⟩ = some (.int .i64 0) := (blk_cell BK342.out 3).trans rfl
             have hfz32_0 := blk_frozen BK342.out 0
             have hfz32_1 := blk_frozen BK342.out 1
             have hfz32_2 := blk_frozen BK342.out 2
             have hfz32_3 := blk_frozen BK342.out 3
             go_wp2
             go_meet
             case rel => exact ⟨_, (false), (by first | rfl | (simp; done) | (simp [*]; done)), H', ⟨by have := HK1.out; first | omega | exact Nat.le_refl _⟩, ⟨by (with_reducible repeat (first | refine blk_drewN ?_ _ | refine blk_drew ?_ | refine blk_alloc ?_ _)); refine blk_put (cs := #[.int .i64 ((rd_T40 l0 x9_1).f0), .int .i64 ((rd_T40 l0 x9_1).f1), .int .i64 ((rd_T40 l0 x9_1).f2), .int .i64 0]) ?_ 3 _ rfl; (with_reducible repeat (first | refine blk_drewN ?_ _ | refine blk_drew ?_ | refine blk_alloc ?_ _)); refine blk_put (cs := #[.int .i64 ((rd_T40 l0 x9_1).f0), .int .i64 ((rd_T40 l0 x9_1).f1), .int .i64 0, .int .i64 0]) ?_ 2 _ rfl; (with_reducible repeat (first | refine blk_drewN ?_ _ | refine blk_drew ?_ | refine blk_alloc ?_ _)); refine blk_put (cs := #[.int .i64 ((rd_T40 l0 x9_1).f0), .int .i64 0, .int .i64 0, .int .i64 0]) ?_ 1 _ rfl; (with_reducible repeat (first | refine blk_drewN ?_ _ | refine blk_drew ?_ | refine blk_alloc ?_ _)); refine blk_put (cs := #[.int .i64 0, .int .i64 0, .int .i64 0, .int .i64 0]) ?_ 0 _ rfl; (with_reducible repeat (first | refine blk_drewN ?_ _ | refine blk_drew ?_ | refine blk_alloc ?_ _)); exact BK342.out⟩, ⟨by repeat (first | (with_reducible first | exact HB.out | apply below_alloc | apply Zd | apply below_drew1 | refine below_set ?_ GE342.out) | exact HB.out)⟩⟩
           ·rw [if_neg c29] at H
            have c29b0 : ((wrap64 (((rd_T40 l0 x9_1).f0) - x7_1)) == (wrap64 (((rd_T40 l0 x9_1).f2) - x8_1))) = false := beq_eq_false_iff_ne.mpr c29
            have c29b1 : ((wrap64 (((rd_T40 l0 x9_1).f0) - x7_1)) != (wrap64 (((rd_T40 l0 x9_1).f2) - x8_1))) = true := bne_iff_ne.mpr c29
            have H' := Zm H
            clear H
            have hcz33_0 : w7.cell? ⟨gb342, 0, none⟩ = some (.int .i64 0) := (blk_cell BK342.out 0).trans rfl
            have hcz33_1 : w7.cell? ⟨gb342, 1, none⟩ = some (.int .i64 0) := (blk_cell BK342.out 1).trans rfl
            have hcz33_2 : w7.cell? ⟨gb342, 2, none⟩ = some (.int .i64 0) := (blk_cell BK342.out 2).trans rfl
            have hcz33_3 : w7.cell? ⟨gb342, 3, none⟩ = some (.int .i64 0) := (blk_cell BK342.out 3).trans rfl
            have hfz33_0 := blk_frozen BK342.out 0
            have hfz33_1 := blk_frozen BK342.out 1
            have hfz33_2 := blk_frozen BK342.out 2
            have hfz33_3 := blk_frozen BK342.out 3
            go_wp2
            go_meet
            case rel => exact ⟨_, (true), (by first | rfl | (simp; done) | (simp [*]; done)), H', ⟨by have := HK1.out; first | omega | exact Nat.le_refl _⟩, ⟨by (with_reducible repeat (first | refine blk_drewN ?_ _ | refine blk_drew ?_ | refine blk_alloc ?_ _)); refine blk_put (cs := #[.int .i64 ((rd_T40 l0 x9_1).f0), .int .i64 ((rd_T40 l0 x9_1).f1), .int .i64 ((rd_T40 l0 x9_1).f2), .int .i64 0]) ?_ 3 _ rfl; (with_reducible repeat (first | refine blk_drewN ?_ _ | refine blk_drew ?_ | refine blk_alloc ?_ _)); refine blk_put (cs := #[.int .i64 ((rd_T40 l0 x9_1).f0), .int .i64 ((rd_T40 l0 x9_1).f1), .int .i64 0, .int .i64 0]) ?_ 2 _ rfl; (with_reducible repeat (first | refine blk_drewN ?_ _ | refine blk_drew ?_ | refine blk_alloc ?_ _)); refine blk_put (cs := #[.int .i64 ((rd_T40 l0 x9_1).f0), .int .i64 0, .int .i64 0, .int .i64 0]) ?_ 1 _ rfl; (with_reducible repeat (first | refine blk_drewN ?_ _ | refine blk_drew ?_ | refine blk_alloc ?_ _)); refine blk_put (cs := #[.int .i64 0, .int .i64 0, .int .i64 0, .int .i64 0]) ?_ 0 _ rfl; (with_reducible repeat (first | refine blk_drewN ?_ _ | refine blk_drew ?_ | refine blk_alloc ?_ _)); exact BK342.out⟩, ⟨by repeat (first | (with_reducible first | exact HB.out | apply below_alloc | apply Zd | apply below_drew1 | refine below_set ?_ GE342.out) | exact HB.out)⟩⟩
     case rest =>
      clear HC6
      try clear c1
      try clear c2
      try clear p2
      try clear c3
      try clear p3
      try clear q3
      try clear hx3
      try clear c4
      try clear c4b0
      try clear c5
      try clear c5b0
      try clear p6
      try clear c9
      try clear c9b0
      try clear c11
      try clear c11b0
      try clear c13
      try clear c13b0
      try clear c13b1
      try clear c14
      try clear c14b0
      try clear c14b1
      try clear c16
      try clear c16b0
      try clear c18
      try clear c18b0
      try clear c20
      try clear c20b0
      try clear c20b1
      try clear c21
      try clear c21b0
      try clear c25
      try clear c25b0
      try clear c27
      try clear c27b0
      try clear c29
      try clear c29b0
      try clear c29b1
      try clear c30
      try clear c30b0
      try clear hcz10_0
      try clear hcz10_1
      try clear hcz10_2
      try clear hcz10_3
      try clear hcz12_0
      try clear hcz12_1
      try clear hcz12_2
      try clear hcz12_3
      try clear hcz15_0
      try clear hcz15_1
      try clear hcz15_2
      try clear hcz15_3
      try clear hcz17_0
      try clear hcz17_1
      try clear hcz17_2
      try clear hcz17_3
      try clear hcz19_0
      try clear hcz19_1
      try clear hcz19_2
      try clear hcz19_3
      try clear hcz22_0
      try clear hcz22_1
      try clear hcz22_2
      try clear hcz22_3
      try clear hcz23_0
      try clear hcz23_1
      try clear hcz23_2
      try clear hcz23_3
      try clear hcz24_0
      try clear hcz24_1
      try clear hcz24_2
      try clear hcz24_3
      try clear hcz26_0
      try clear hcz26_1
      try clear hcz26_2
      try clear hcz26_3
      try clear hcz28_0
      try clear hcz28_1
      try clear hcz28_2
      try clear hcz28_3
      try clear hcz31_0
      try clear hcz31_1
      try clear hcz31_2
      try clear hcz31_3
      try clear hcz32_0
      try clear hcz32_1
      try clear hcz32_2
      try clear hcz32_3
      try clear hcz33_0
      try clear hcz33_1
      try clear hcz33_2
      try clear hcz33_3
      try clear hcz8_0
      try clear hcz8_1
      try clear hcz8_2
      try clear hcz8_3
      try clear hfz10_0
      try clear hfz10_1
      try clear hfz10_2
      try clear hfz10_3
      try clear hfz12_0
      try clear hfz12_1
      try clear hfz12_2
      try clear hfz12_3
      try clear hfz15_0
      try clear hfz15_1
      try clear hfz15_2
      try clear hfz15_3
      try clear hfz17_0
      try clear hfz17_1
      try clear hfz17_2
      try clear hfz17_3
      try clear hfz19_0
      try clear hfz19_1
      try clear hfz19_2
      try clear hfz19_3
      try clear hfz22_0
      try clear hfz22_1
      try clear hfz22_2
      try clear hfz22_3
      try clear hfz23_0
      try clear hfz23_1
      try clear hfz23_2
      try clear hfz23_3
      try clear hfz24_0
      try clear hfz24_1
      try clear hfz24_2
      try clear hfz24_3
      try clear hfz26_0
      try clear hfz26_1
      try clear hfz26_2
      try clear hfz26_3
      try clear hfz28_0
      try clear hfz28_1
      try clear hfz28_2
      try clear hfz28_3
      try clear hfz31_0
      try clear hfz31_1
      try clear hfz31_2
      try clear hfz31_3
      try clear hfz32_0
      try clear hfz32_1
      try clear hfz32_2
      try clear hfz32_3
      try clear hfz33_0
      try clear hfz33_1
      try clear hfz33_2
      try clear hfz33_3
      try clear hfz8_0
      try clear hfz8_1
      try clear hfz8_2
      try clear hfz8_3
      try clear hx341_0
      try clear hx341_1
      try clear hx341_2
      try clear hx341_3
      try clear p2
      try clear p341
      try clear q341
      obtain ⟨kq, x71_5, rfl, HA, HJ5, BK342, HB⟩ := hcut
      cases kq with
      | zero => exact absurd HA.out (by simp [r06_May.j1])
      | succ kj5 =>
       have H := HA.out
       clear HA
       simp only [r06_May.j1] at H
       by_cases c34 : x71_5 = true
       ·subst c34
        have H1 : (some false) = some r := by rw [if_pos rfl] at H; exact H
        clear H
        have H := H1
        clear H1
        obtain rfl := Option.some.inj H
        go_wp2
        go_ret
        exact ⟨by first | rfl | (simp [errW_none, errW_some] <;> rfl) | (simp [*, errW_none, errW_some] <;> rfl), by repeat (first | (with_reducible first | exact HB.out | apply below_alloc | apply Zd | apply below_drew1 | refine below_set ?_ GE342.out) | exact HB.out)⟩
       ·replace c34 := Bool.eq_false_iff.mpr c34
        subst c34
        have H1 : (if ((rd_T40 l0 x9_1).f0) > a1 then (some false) else (if ((rd_T40 l0 x9_1).f2) > a2 then (some false) else (if ((rd_T40 l0 x9_1).f1) > (wrap64 (a1 - ((rd_T40 l0 x9_1).f0))) then (some false) else (if ((rd_T40 l0 x9_1).f3) > (wrap64 (a2 - ((rd_T40 l0 x9_1).f2))) then (some false) else (r06_May.l0 kj5 l0 a1 a2 (wrap64 (((rd_T40 l0 x9_1).f0) + ((rd_T40 l0 x9_1).f1))) (wrap64 (((rd_T40 l0 x9_1).f2) + ((rd_T40 l0 x9_1).f3))) (wrap64 (x9_1 + 1))))))) = some r := by rw [if_neg (show ¬ (false = true) by decide)] at H; exact H
        clear H
        have H := H1
        clear H1
        by_cases c35 : ((rd_T40 l0 x9_1).f0) > a1
        ·rw [if_pos c35] at H
         have c35b0 : decide (a1 < ((rd_T40 l0 x9_1).f0)) = true := decide_eq_true c35
         clear c35
         obtain rfl := Option.some.inj H
         have hcz36_0 : wc.cell? ⟨gb342, 0, none⟩ = some (.int .i64 ((rd_T40 l0 x9_1).f0)) := (blk_cell BK342.out 0).trans rfl
         have hcz36_1 : wc.cell? ⟨gb342, 1, none⟩ = some (.int .i64 ((rd_T40 l0 x9_1).f1)) := (blk_cell BK342.out 1).trans rfl
         have hcz36_2 : wc.cell? ⟨gb342, 2, none⟩ = some (.int .i64 ((rd_T40 l0 x9_1).f2)) := (blk_cell BK342.out 2).trans rfl
         have hcz36_3 : wc.cell? ⟨gb342, 3, none⟩ = some (.int .i64 ((rd_T40 l0 x9_1).f3)) := (blk_cell BK342.out 3).trans rfl
         have hfz36_0 := blk_frozen BK342.out 0
         have hfz36_1 := blk_frozen BK342.out 1
         have hfz36_2 := blk_frozen BK342.out 2
         have hfz36_3 := blk_frozen BK342.out 3
         go_wp2
         go_ret
         exact ⟨by first | rfl | (simp [errW_none, errW_some] <;> rfl) | (simp [*, errW_none, errW_some] <;> rfl), by repeat (first | (with_reducible first | exact HB.out | apply below_alloc | apply Zd | apply below_drew1 | refine below_set ?_ GE342.out) | exact HB.out)⟩
        ·rw [if_neg c35] at H
         have c35b0 : decide (a1 < ((rd_T40 l0 x9_1).f0)) = false := decide_eq_false c35
         clear c35
         by_cases c37 : ((rd_T40 l0 x9_1).f2) > a2
         ·rw [if_pos c37] at H
          have c37b0 : decide (a2 < ((rd_T40 l0 x9_1).f2)) = true := decide_eq_true c37
          clear c37
          obtain rfl := Option.some.inj H
          have hcz38_0 : wc.cell? ⟨gb342, 0, none⟩ = some (.int .i64 ((rd_T40 l0 x9_1).f0)) := (blk_cell BK342.out 0).trans rfl
          have hcz38_1 : wc.cell? ⟨gb342, 1, none⟩ = some (.int .i64 ((rd_T40 l0 x9_1).f1)) := (blk_cell BK342.out 1).trans rfl
          have hcz38_2 : wc.cell? ⟨gb342, 2, none⟩ = some (.int .i64 ((rd_T40 l0 x9_1).f2)) := (blk_cell BK342.out 2).trans rfl
          have hcz38_3 : wc.cell? ⟨gb342, 3, none⟩ = some (.int .i64 ((rd_T40 l0 x9_1).f3)) := (blk_cell BK342.out 3).trans rfl
          have hfz38_0 := blk_frozen BK342.out 0
          have hfz38_1 := blk_frozen BK342.out 1
          have hfz38_2 := blk_frozen BK342.out 2
          have hfz38_3 := blk_frozen BK342.out 3
          go_wp2
          go_ret
          exact ⟨by first | rfl | (simp [errW_none, errW_some] <;> rfl) | (simp [*, errW_none, errW_some] <;> rfl), by repeat (first | (with_reducible first | exact HB.out | apply below_alloc | apply Zd | apply below_drew1 | refine below_set ?_ GE342.out) | exact HB.out)⟩
         ·rw [if_neg c37] at H
          have c37b0 : decide (a2 < ((rd_T40 l0 x9_1).f2)) = false := decide_eq_false c37
          clear c37
          by_cases c39 : ((rd_T40 l0 x9_1).f1) > (wrap64 (a1 - ((rd_T40 l0 x9_1).f0)))
          ·rw [if_pos c39] at H
           have c39b0 : decide ((wrap64 (a1 - ((rd_T40 l0 x9_1).f0))) < ((rd_T40 l0 x9_1).f1)) = true := decide_eq_true c39
           clear c39
           obtain rfl := Option.some.inj H
           have hcz40_0 : wc.cell? ⟨gb342, 0, none⟩ = some (.int .i64 ((rd_T40 l0 x9_1).f0)) := (blk_cell BK342.out 0).trans rfl
           have hcz40_1 : wc.cell? ⟨gb342, 1, none⟩ = some (.int .i64 ((rd_T40 l0 x9_1).f1)) := (blk_cell BK342.out 1).trans rfl
           have hcz40_2 : wc.cell? ⟨gb342, 2, none⟩ = some (.int .i64 ((rd_T40 l0 x9_1).f2)) := (blk_cell BK342.out 2).trans rfl
           have hcz40_3 : wc.cell? ⟨gb342, 3, none⟩ = some (.int .i64 ((rd_T40 l0 x9_1).f3)) := (blk_cell BK342.out 3).trans rfl
           have hfz40_0 := blk_frozen BK342.out 0
           have hfz40_1 := blk_frozen BK342.out 1
           have hfz40_2 := blk_frozen BK342.out 2
           have hfz40_3 := blk_frozen BK342.out 3
           go_wp2
           go_ret
           exact ⟨by first | rfl | (simp [errW_none, errW_some] <;> rfl) | (simp [*, errW_none, errW_some] <;> rfl), by repeat (first | (with_reducible first | exact HB.out | apply below_alloc | apply Zd | apply below_drew1 | refine below_set ?_ GE342.out) | exact HB.out)⟩
          ·rw [if_neg c39] at H
           have c39b0 : decide ((wrap64 (a1 - ((rd_T40 l0 x9_1).f0))) < ((rd_T40 l0 x9_1).f1)) = false := decide_eq_false c39
           clear c39
           by_cases c41 : ((rd_T40 l0 x9_1).f3) > (wrap64 (a2 - ((rd_T40 l0 x9_1).f2)))
           ·rw [if_pos c41] at H
            have c41b0 : decide ((wrap64 (a2 - ((rd_T40 l0 x9_1).f2))) < ((rd_T40 l0 x9_1).f3)) = true := decide_eq_true c41
            clear c41
            obtain rfl := Option.some.inj H
            have hcz42_0 : wc.cell? ⟨gb342, 0, none⟩ = some (.int .i64 ((rd_T40 l0 x9_1).f0)) := (blk_cell BK342.out 0).trans rfl
            have hcz42_1 : wc.cell? ⟨gb342, 1, none⟩ = some (.int .i64 ((rd_T40 l0 x9_1).f1)) := (blk_cell BK342.out 1).trans rfl
            have hcz42_2 : wc.cell? ⟨gb342, 2, none⟩ = some (.int .i64 ((rd_T40 l0 x9_1).f2)) := (blk_cell BK342.out 2).trans rfl
            have hcz42_3 : wc.cell? ⟨gb342, 3, none⟩ = some (.int .i64 ((rd_T40 l0 x9_1).f3)) := (blk_cell BK342.out 3).trans rfl
            have hfz42_0 := blk_frozen BK342.out 0
            have hfz42_1 := blk_frozen BK342.out 1
            have hfz42_2 := blk_frozen BK342.out 2
            have hfz42_3 := blk_frozen BK342.out 3
            go_wp2
            go_ret
            exact ⟨by first | rfl | (simp [errW_none, errW_some] <;> rfl) | (simp [*, errW_none, errW_some] <;> rfl), by repeat (first | (with_reducible first | exact HB.out | apply below_alloc | apply Zd | apply below_drew1 | refine below_set ?_ GE342.out) | exact HB.out)⟩
           ·rw [if_neg c41] at H
            have c41b0 : decide ((wrap64 (a2 - ((rd_T40 l0 x9_1).f2))) < ((rd_T40 l0 x9_1).f3)) = false := decide_eq_false c41
            clear c41
            have H' := Zm H
            clear H
            have hcz43_0 : wc.cell? ⟨gb342, 0, none⟩ = some (.int .i64 ((rd_T40 l0 x9_1).f0)) := (blk_cell BK342.out 0).trans rfl
            have hcz43_1 : wc.cell? ⟨gb342, 1, none⟩ = some (.int .i64 ((rd_T40 l0 x9_1).f1)) := (blk_cell BK342.out 1).trans rfl
            have hcz43_2 : wc.cell? ⟨gb342, 2, none⟩ = some (.int .i64 ((rd_T40 l0 x9_1).f2)) := (blk_cell BK342.out 2).trans rfl
            have hcz43_3 : wc.cell? ⟨gb342, 3, none⟩ = some (.int .i64 ((rd_T40 l0 x9_1).f3)) := (blk_cell BK342.out 3).trans rfl
            have hfz43_0 := blk_frozen BK342.out 0
            have hfz43_1 := blk_frozen BK342.out 1
            have hfz43_2 := blk_frozen BK342.out 2
            have hfz43_3 := blk_frozen BK342.out 3
            go_wp2
            go_roundg kj5
            case measure => have := HK1.out; have := HJ5.out; omega
            case rel => exact ⟨(wrap64 (((rd_T40 l0 x9_1).f0) + ((rd_T40 l0 x9_1).f1))), (wrap64 (((rd_T40 l0 x9_1).f2) + ((rd_T40 l0 x9_1).f3))), (wrap64 (x9_1 + 1)), (by first | rfl | (simp; done) | (simp [*]; done)), (by first | rfl | (simp; done) | (simp [*]; done)), (by first | rfl | (simp; done) | (simp [*]; done)), H', ⟨by have := HK1.out; have := HJ5.out; omega⟩, ⟨by repeat (first | (with_reducible first | exact HB.out | apply below_alloc | apply Zd | apply below_drew1 | refine below_set ?_ GE342.out) | exact HB.out)⟩⟩
    ·rw [if_neg c5] at H
     exact absurd H (by simp)
   ·rw [if_neg c4] at H
    have c4b0 : decide (x9_1 < (l0.length : Int)) = false := decide_eq_false c4
    clear c4
    by_cases c44 : (wrap64 (a1 - x7_1)) = (wrap64 (a2 - x8_1))
    ·rw [if_pos c44] at H
     have c44b0 : ((wrap64 (a1 - x7_1)) == (wrap64 (a2 - x8_1))) = true := beq_iff_eq.mpr c44
     have c44b1 : ((wrap64 (a1 - x7_1)) != (wrap64 (a2 - x8_1))) = false := bne_eq_false_iff_eq.mpr c44
     clear c44
     obtain rfl := Option.some.inj H
     go_wp2
     go_ret
     exact ⟨by first | rfl | (simp [errW_none, errW_some] <;> rfl) | (simp [*, errW_none, errW_some] <;> rfl), by repeat (first | (with_reducible first | exact HB.out | apply below_alloc | apply Zd | apply below_drew1) | exact HB.out)⟩
    ·rw [if_neg c44] at H
     have c44b0 : ((wrap64 (a1 - x7_1)) == (wrap64 (a2 - x8_1))) = false := beq_eq_false_iff_ne.mpr c44
     have c44b1 : ((wrap64 (a1 - x7_1)) != (wrap64 (a2 - x8_1))) = true := bne_iff_ne.mpr c44
     obtain rfl := Option.some.inj H
     go_wp2
     go_ret
     exact ⟨by first | rfl | (simp [errW_none, errW_some] <;> rfl) | (simp [*, errW_none, errW_some] <;> rfl), by repeat (first | (with_reducible first | exact HB.out | apply below_alloc | apply Zd | apply below_drew1) | exact HB.out)⟩
/-! ### r06_Patch: function 15 -/
def r06_Patch.l0 : Nat → List ByteArray → List (S40) → List ByteArray → List ByteArray → Int → Int → Option (List ByteArray × Int)
 | 0, _, _, _, _, _, _ => none
 | k + 1, x0, x1, x2, x9, x10, x11 => if x11 < (x1.length : Int) then (if 0 ≤ x11 then (if 0 ≤ x10 then (if x10 ≤ ((rd_T40 x1 x11).f0) then (if ((rd_T40 x1 x11).f0) ≤ (x0.length : Int) then (if x9.length + ((x0.take (((rd_T40 x1 x11).f0) : Int).toNat).drop (x10 : Int).toNat).length < 8796093022208 then ((some (x9 ++ ((x0.take (((rd_T40 x1 x11).f0) : Int).toNat).drop (x10 : Int).toNat) : List ByteArray)).bind fun y347 => (if 0 ≤ ((rd_T40 x1 x11).f2) then (if ((rd_T40 x1 x11).f2) ≤ (wrap64 (((rd_T40 x1 x11).f2) + ((rd_T40 x1 x11).f3))) then (if (wrap64 (((rd_T40 x1 x11).f2) + ((rd_T40 x1 x11).f3))) ≤ (x2.length : Int) then (if y347.length + ((x2.take ((wrap64 (((rd_T40 x1 x11).f2) + ((rd_T40 x1 x11).f3))) : Int).toNat).drop (((rd_T40 x1 x11).f2) : Int).toNat).length < 8796093022208 then (r06_Patch.l0 k x0 x1 x2 (y347 ++ ((x2.take ((wrap64 (((rd_T40 x1 x11).f2) + ((rd_T40 x1 x11).f3))) : Int).toNat).drop (((rd_T40 x1 x11).f2) : Int).toNat)) (wrap64 (((rd_T40 x1 x11).f0) + ((rd_T40 x1 x11).f1))) (wrap64 (x11 + 1))) else (none)) else (none)) else (none)) else (none))) else (none)) else (none)) else (none)) else (none)) else (none)) else (if 0 ≤ x10 then (if x10 ≤ (x0.length : Int) then (if x9.length + (x0.drop (x10 : Int).toNat).length < 8796093022208 then (some ((x9 ++ (x0.drop (x10 : Int).toNat)), 0)) else (none)) else (none)) else (none))
def r06_Patch.f (k : Nat) (l0 : List ByteArray) (l1 : List (S40)) (l2 : List ByteArray) : Option (List ByteArray × Int) := (r06_May.f k l1 (l0.length : Int) (l2.length : Int)).bind fun t343 => (if t343 = true then (r06_Patch.l0 k l0 l1 l2 ([] : List ByteArray) 0 0) else (some (([] : List ByteArray), 60)))
theorem r06_Patch.mono_l : ∀ k, (∀ y0 y1 y2 y3 y4 y5, LeO (r06_Patch.l0 k y0 y1 y2 y3 y4 y5) (r06_Patch.l0 (k + 1) y0 y1 y2 y3 y4 y5))
 | 0 => fun _ _ _ _ _ _ r h => by simp [r06_Patch.l0] at h
 | k + 1 => by
  have ih0 := r06_Patch.mono_l k
  ·intro y0 y1 y2 y3 y4 y5
   unfold r06_Patch.l0
   repeat' first
   | (with_reducible exact ih0 _ _ _ _ _ _)
   | (with_reducible exact r06_May.mono _ _ _ _)
   | (with_reducible exact LeO.refl _)
   | (with_reducible exact LeO.none _)
   | (with_reducible refine LeO.ite ?_ ?_)
   | (with_reducible refine LeO.bind ?_ (fun _ => ?_))
   | exact ih0 _ _ _ _ _ _
   | exact r06_May.mono _ _ _ _
   | exact LeO.none _
   | refine LeO.ite ?_ ?_
   | refine LeO.bind ?_ (fun _ => ?_)
theorem r06_Patch.mono : ∀ a0 a1 a2 k, LeO (r06_Patch.f k a0 a1 a2) (r06_Patch.f (k + 1) a0 a1 a2) := by
 intro a0 a1 a2 k
 have ih0 := r06_Patch.mono_l k
 unfold r06_Patch.f
 repeat' first
   | (with_reducible exact ih0 _ _ _ _ _ _)
   | (with_reducible exact r06_May.mono _ _ _ _)
   | (with_reducible exact LeO.refl _)
   | (with_reducible exact LeO.none _)
   | (with_reducible refine LeO.ite ?_ ?_)
   | (with_reducible refine LeO.bind ?_ (fun _ => ?_))
   | exact ih0 _ _ _ _ _ _
   | exact r06_May.mono _ _ _ _
   | exact LeO.none _
   | refine LeO.ite ?_ ?_
   | refine LeO.bind ?_ (fun _ => ?_)
set_option maxHeartbeats 8000000 in
set_option maxRecDepth 100000 in
theorem r06_Patch.calls (k : Nat) (A0 : Option Addr) (c0 : Nat) (l0 : List ByteArray) (A1 : Option Addr) (c1 : Nat) (l1 : List (S40)) (A2 : Option Addr) (c2 : Nat) (l2 : List ByteArray) (r1 : List ByteArray) (r2 : Int) (w : World) (hr0 : Kd.C Kd.string w A0 l0.length l0) (hc0 : l0.length ≤ c0) (hr1 : Kd.C k40 w A1 l1.length l1) (hc1 : l1.length ≤ c1) (hr2 : Kd.C Kd.string w A2 l2.length l2) (hc2 : l2.length ≤ c2) (h : r06_Patch.f k l0 l1 l2 = some (r1, r2)) :
  Calls Try.prog 15 #[.slice A0 l0.length c0, .slice A1 l1.length c1, .slice A2 l2.length c2] w fun e w' => ∃ v0_ : Value, e = .returned (.tuple #[v0_, .int .i64 r2]) ∧ Kd.R Kd.string 9 w' w.heap.size (fun _ => True) v0_ r1 ∧ Below w.heap.size w w' := by
 have hu40 := Try.underlying40
 have HR0 := Zm hr0
 have HC0 := Zm hc0
 clear hr0 hc0
 have HR1 := Zm hr1
 have HC1 := Zm hc1
 clear hr1 hc1
 have HR2 := Zm hr2
 have HC2 := Zm hc2
 clear hr2 hc2
 have HB := Zm (Below.refl w.heap.size w)
 have H : ((r06_May.f k l1 (l0.length : Int) (l2.length : Int)).bind fun t343 => (if t343 = true then (r06_Patch.l0 k l0 l1 l2 ([] : List ByteArray) 0 0) else (some (([] : List ByteArray), 60)))) = some (r1, r2) := h
 clear h
 replace H := Option.bind_eq_some_iff.mp H
 obtain ⟨t343, A40, H⟩ := H
 replace H : (if t343 = true then (r06_Patch.l0 k l0 l1 l2 ([] : List ByteArray) 0 0) else (some (([] : List ByteArray), 60))) = some (r1, r2) := H
 have A4 := Zm A40
 clear A40
 by_cases c5 : t343 = true
 ·subst c5
  have H1 : (r06_Patch.l0 k l0 l1 l2 ([] : List ByteArray) 0 0) = some (r1, r2) := by rw [if_pos rfl] at H; exact H
  clear H
  have H := H1
  clear H1
  have H' := Zm H
  clear H
  go_enter Try.func15, Try.ntmps15
  go_wp2_with (first | ((with_reducible refine gate_callee (f := 16) rfl ?_); refine goesL_ (some 18) rfl rfl Try.func16 (by kernel_rfl) rfl #[.slice A1 l1.length c1, .int .i64 (l0.length : Int), .int .i64 (l2.length : Int)] rfl (by (try simp only [List.map_toArray, List.map_cons, List.map_nil]); first | done | rfl | (simp only [List.length_drop, List.length_take]; rfl)) ?_; (with_reducible refine (r06_May.calls k _ _ l1 (l0.length : Int) (l2.length : Int) true _ ?side1 ?side2 A4.out).mono ?_); (case side1 => repeat (first | exact HR1.out | (with_reducible refine Kd.C_alloc ?_ _) | (with_reducible refine Kd.C_drewN ?_ _) | (with_reducible refine Kd.C_drew ?_))); (case side2 => exact HC1.out); rintro e w6 ⟨rfl, hb⟩; refine ⟨_, rfl, ?_⟩; have n0_ := Zm (below_step (by repeat (first | (with_reducible first | exact HB.out | apply below_alloc | apply Zd | apply below_drew1) | exact HB.out)) hb); clear HB; have HB := n0_; clear n0_; (try clear hb); (try clear hb2); (try clear hk); (try clear hi)))
  go_loopg [9, 10, 11] k (fun kq v9 v10 v11 w' => ∃ (x9_1 : List ByteArray) (x10_1 : Int) (x11_1 : Int), v10 = .int .i64 x10_1 ∧ v11 = .int .i64 x11_1 ∧ Aside0 (r06_Patch.l0 kq l0 l1 l2 x9_1 x10_1 x11_1 = some (r1, r2)) ∧ Aside0 (kq ≤ k) ∧ Aside0 (Kd.R Kd.string 9 w' w.heap.size (fun _ => True) v9 x9_1) ∧ Aside0 (Below w.heap.size w w'))
  case atStart => exact ⟨(([] : List ByteArray)), (0), (0), (by first | rfl | (simp; done) | (simp [*]; done)), (by first | rfl | (simp; done) | (simp [*]; done)), H', ⟨Nat.le_refl _⟩, ⟨by first | exact Kd.R_nil _ _ _ _ _ | exact Kd.N_nil _ _ _ _ _ | exact Kd.V_nil _ _ _ _ _ | exact Kd.Q_nil _ _ _ _ _ | exact Kd.S_nil _ _ _ _ _⟩, ⟨by repeat (first | (with_reducible first | exact HB.out | apply below_alloc | apply Zd | apply below_drew1) | exact HB.out)⟩⟩
  case round =>
   clear H'
   try clear c1
   try clear c2
   try clear p2
   try clear c5
   obtain ⟨x9_1, x10_1, x11_1, rfl, rfl, HA, HK1, HO_9, HB⟩ := hrel
   cases gk with
   | zero => exact absurd HA.out (by simp [r06_Patch.l0])
   | succ k1 =>
    have H := HA.out
    clear HA
    simp only [r06_Patch.l0] at H
    by_cases c7 : x11_1 < (l1.length : Int)
    ·rw [if_pos c7] at H
     have c7b0 : decide (x11_1 < (l1.length : Int)) = true := decide_eq_true c7
     clear c7
     by_cases c8 : 0 ≤ x11_1
     ·rw [if_pos c8] at H
      have c8b0 : decide (0 ≤ x11_1) = true := decide_eq_true c8
      clear c8
      by_cases c9 : 0 ≤ x10_1
      ·rw [if_pos c9] at H
       have c9b0 := eq_true c9
       have c9b1 : decide (0 ≤ x10_1) = true := decide_eq_true c9
       clear c9
       by_cases c10 : x10_1 ≤ ((rd_T40 l1 x11_1).f0)
       ·rw [if_pos c10] at H
        have c10b0 := eq_true c10
        have c10b1 : decide (x10_1 ≤ ((rd_T40 l1 x11_1).f0)) = true := decide_eq_true c10
        clear c10
        by_cases c11 : ((rd_T40 l1 x11_1).f0) ≤ (l0.length : Int)
        ·rw [if_pos c11] at H
         have c11b0 := eq_true c11
         have c11b1 : decide (((rd_T40 l1 x11_1).f0) ≤ (l0.length : Int)) = true := decide_eq_true c11
         clear c11
         by_cases c12 : x9_1.length + ((l0.take (((rd_T40 l1 x11_1).f0) : Int).toNat).drop (x10_1 : Int).toNat).length < 8796093022208
         ·rw [if_pos c12] at H
          have LMc12 := Zm c12
          clear c12
          obtain ⟨y347, hy347⟩ : ∃ y_ : List ByteArray, y_ = (x9_1 ++ ((l0.take (((rd_T40 l1 x11_1).f0) : Int).toNat).drop (x10_1 : Int).toNat)) := ⟨_, rfl⟩
          replace H : (if 0 ≤ ((rd_T40 l1 x11_1).f2) then (if ((rd_T40 l1 x11_1).f2) ≤ (wrap64 (((rd_T40 l1 x11_1).f2) + ((rd_T40 l1 x11_1).f3))) then (if (wrap64 (((rd_T40 l1 x11_1).f2) + ((rd_T40 l1 x11_1).f3))) ≤ (l2.length : Int) then (if y347.length + ((l2.take ((wrap64 (((rd_T40 l1 x11_1).f2) + ((rd_T40 l1 x11_1).f3))) : Int).toNat).drop (((rd_T40 l1 x11_1).f2) : Int).toNat).length < 8796093022208 then (r06_Patch.l0 k1 l0 l1 l2 (y347 ++ ((l2.take ((wrap64 (((rd_T40 l1 x11_1).f2) + ((rd_T40 l1 x11_1).f3))) : Int).toNat).drop (((rd_T40 l1 x11_1).f2) : Int).toNat)) (wrap64 (((rd_T40 l1 x11_1).f0) + ((rd_T40 l1 x11_1).f1))) (wrap64 (x11_1 + 1))) else (none)) else (none)) else (none)) else (none)) = some (r1, r2) := by first | (rw [hy347]; with_reducible exact H) | (have H2_ := (Option.bind_some _ _).symm.trans H; rw [hy347]; with_reducible exact H2_) | (have H2_ := (Option.bind_some _ _).symm.trans H; with_reducible exact H2_) | with_reducible exact H | (rw [hy347]; exact H) | exact H
          have Ny347 := Zm hy347
          clear hy347
          by_cases c13 : 0 ≤ ((rd_T40 l1 x11_1).f2)
          ·rw [if_pos c13] at H
           have c13b0 := eq_true c13
           have c13b1 : decide (0 ≤ ((rd_T40 l1 x11_1).f2)) = true := decide_eq_true c13
           clear c13
           by_cases c14 : ((rd_T40 l1 x11_1).f2) ≤ (wrap64 (((rd_T40 l1 x11_1).f2) + ((rd_T40 l1 x11_1).f3)))
           ·rw [if_pos c14] at H
            have c14b0 := eq_true c14
            have c14b1 : decide (((rd_T40 l1 x11_1).f2) ≤ (wrap64 (((rd_T40 l1 x11_1).f2) + ((rd_T40 l1 x11_1).f3)))) = true := decide_eq_true c14
            by_cases c15 : (wrap64 (((rd_T40 l1 x11_1).f2) + ((rd_T40 l1 x11_1).f3))) ≤ (l2.length : Int)
            ·rw [if_pos c15] at H
             have c15b0 := eq_true c15
             have c15b1 : decide ((wrap64 (((rd_T40 l1 x11_1).f2) + ((rd_T40 l1 x11_1).f3))) ≤ (l2.length : Int)) = true := decide_eq_true c15
             by_cases c16 : y347.length + ((l2.take ((wrap64 (((rd_T40 l1 x11_1).f2) + ((rd_T40 l1 x11_1).f3))) : Int).toNat).drop (((rd_T40 l1 x11_1).f2) : Int).toNat).length < 8796093022208
             ·rw [if_pos c16] at H
              have LMc16 := Zm c16
              clear c16
              obtain ⟨y351, hy351⟩ : ∃ y_ : List ByteArray, y_ = (y347 ++ ((l2.take ((wrap64 (((rd_T40 l1 x11_1).f2) + ((rd_T40 l1 x11_1).f3))) : Int).toNat).drop (((rd_T40 l1 x11_1).f2) : Int).toNat)) := ⟨_, rfl⟩
              replace H : (r06_Patch.l0 k1 l0 l1 l2 y351 (wrap64 (((rd_T40 l1 x11_1).f0) + ((rd_T40 l1 x11_1).f1))) (wrap64 (x11_1 + 1))) = some (r1, r2) := by first | (rw [hy351]; with_reducible exact H) | (have H2_ := (Option.bind_some _ _).symm.trans H; rw [hy351]; with_reducible exact H2_) | (have H2_ := (Option.bind_some _ _).symm.trans H; with_reducible exact H2_) | with_reducible exact H | (rw [hy351]; exact H) | exact H
              have Ny351 := Zm hy351
              clear hy351
              have H' := Zm H
              clear H
              have p344 : 0 ≤ (x11_1 : Int) := Zo (by first | (with_reducible assumption) | assumption)
              have q344 : x11_1 < (l1.length : Int) := Zo (by first | (with_reducible assumption) | assumption)
              obtain ⟨ad344, e344, hx344_0, hx344_1, hx344_2, hx344_3⟩ := at_T40 HR1.out x11_1 p344 q344
              cases e344
              replace hx344_0 := (HB.out.cell (World.block_lt_of_cell? w _ hx344_0)).trans hx344_0
              replace hx344_1 := (HB.out.cell (World.block_lt_of_cell? w _ hx344_1)).trans hx344_1
              replace hx344_2 := (HB.out.cell (World.block_lt_of_cell? w _ hx344_2)).trans hx344_2
              replace hx344_3 := (HB.out.cell (World.block_lt_of_cell? w _ hx344_3)).trans hx344_3
              replace p344 := eq_true p344
              replace q344 := eq_true q344
              go_wp2_with (first | ((with_reducible refine gate_dst (N := 12) rfl ?_); refine box_event ?hg (N := 12) ?hd (cs := #[.int .i64 0, .int .i64 0, .int .i64 0, .int .i64 0]) (t := 40) ?hr ?_; (case hd => rfl); (case hg => rfl); (case hr => first | (go_simp; done) | (go_simp; rfl)); intro gb345 hg w17 hbox hb; have n0_ := Zm (Kd.R_below (by (with_reducible repeat (first | apply Kd.R_alloc | apply Kd.R_drewN | apply Kd.R_drew)); exact HO_9.out) hb); have n1_ := Zm (below_step (by repeat (first | (with_reducible first | exact HB.out | apply below_alloc | apply Zd | apply below_drew1) | exact HB.out)) hb); have n2_ := Zm (hbox); have n3_ := Zm ((by rw [hg]; exact (below_size (by repeat (first | (with_reducible first | exact HB.out | apply below_alloc | apply Zd | apply below_drew1) | exact HB.out))) : w.heap.size ≤ gb345)); have n4_ := Zm ((by rw [hg]; exact (below_size (by repeat (first | (with_reducible first | exact HB.out | apply below_alloc | apply Zd | apply below_drew1) | exact HB.out))) : w.heap.size ≤ gb345)); clear HO_9; clear HB; have HO_9 := n0_; have HB := n1_; have BK345 := n2_; have GW345 := n3_; have GE345 := n4_; clear n0_ n1_ n2_ n3_ n4_; clear hb hbox hg; have hcz18_0 : w17.cell? ⟨gb345, 0, none⟩ = some (.int .i64 0) := (blk_cell BK345.out 0).trans rfl; have hcz18_1 : w17.cell? ⟨gb345, 1, none⟩ = some (.int .i64 0) := (blk_cell BK345.out 1).trans rfl; have hcz18_2 : w17.cell? ⟨gb345, 2, none⟩ = some (.int .i64 0) := (blk_cell BK345.out 2).trans rfl; have hcz18_3 : w17.cell? ⟨gb345, 3, none⟩ = some (.int .i64 0) := (blk_cell BK345.out 3).trans rfl; have hfz18_0 := blk_frozen BK345.out 0; have hfz18_1 := blk_frozen BK345.out 1; have hfz18_2 := blk_frozen BK345.out 2; have hfz18_3 := blk_frozen BK345.out 3; obtain ⟨i019, hi019, _, hsz19, _⟩ := info_parts info9; obtain ⟨A19, hcut19, hA19, hC19⟩ := print_mid_of (P := Try.prog) Value.string (⟨#[]⟩ : ByteArray) 25 9 .i64 .i64 Try.underlying25 hi019 hsz19 A0 c0 l0 x10_1 ((rd_T40 l1 x11_1).f0) (Zo (by first | (with_reducible assumption) | assumption)) (by first | omega | exact Zo (by first | (with_reducible assumption) | assumption)) (Zo (by first | (with_reducible assumption) | assumption)) HC0.out; have HR346 := Zm (Kd.C_of_reads (h1 := fun _ => rfl) (hA19 _ (Kd.reads_of_C HR0.out))); have HC346 := Zm hC19; clear hA19 hC19 hi019 hsz19) | ((with_reducible refine gate_builtin (b := .append) (xs := #[.tmp 31, .tmp 36]) rfl ?_); at_builtin; refine Kd.R_append_rows Kd.string (w0 := w) w.heap.size rfl (.tmp 31) (.tmp 36) 25 9 (.string ⟨#[]⟩) 16 rfl Try.underlying25 info9 rfl (by decide) (by omega) u9 x9_1 ((l0.take (((rd_T40 l1 x11_1).f0) : Int).toNat).drop (x10_1 : Int).toNat) _ _ _ (fun _ => True) (fun _ => False) rfl rfl ?aO ?aR (fun _ _ h => h) (fun _ h => h.elim) ?aF ?aB ?aS ?aL ?_; (case aR => first | (rw [← show ((l0.take (((rd_T40 l1 x11_1).f0) : Int).toNat).drop (x10_1 : Int).toNat).length = (((rd_T40 l1 x11_1).f0).toNat - x10_1.toNat) from (by rw [List.length_drop, List.length_take]; have h_ : (((rd_T40 l1 x11_1).f0) : Int) ≤ (l0.length : Int) := Zo (by first | (with_reducible assumption) | assumption); omega)]; exact Kd.C_below HR346.out (by repeat (first | (with_reducible first | exact HB.out | apply below_alloc | apply Zd | apply below_drew1 | refine below_set ?_ GE345.out) | exact HB.out))) | (exact Kd.C_below HR346.out (by repeat (first | (with_reducible first | exact HB.out | apply below_alloc | apply Zd | apply below_drew1 | refine below_set ?_ GE345.out) | exact HB.out)))); (case aB => exact (by repeat (first | (with_reducible first | exact HB.out | apply below_alloc | apply Zd | apply below_drew1 | refine below_set ?_ GE345.out) | exact HB.out))); (case aF => exact (fun _ _ => trivial)); (case aO => exact (by (with_reducible repeat (first | apply Kd.R_alloc | apply Kd.R_drewN | apply Kd.R_drew)); exact Kd.R_mono (Kd.R_far (p := ⟨gb345, 3, none⟩) (Kd.R_far (p := ⟨gb345, 2, none⟩) (Kd.R_far (p := ⟨gb345, 1, none⟩) (Kd.R_far (p := ⟨gb345, 0, none⟩) (Kd.R_types HO_9.out BK345.out (by decide)) (fun _ hk => hk.2) (.int .i64 ((rd_T40 l1 x11_1).f0))) (fun _ hk => hk.2) (.int .i64 ((rd_T40 l1 x11_1).f1))) (fun _ hk => hk.2) (.int .i64 ((rd_T40 l1 x11_1).f2))) (fun _ hk => hk.2) (.int .i64 ((rd_T40 l1 x11_1).f3))) (fun _ hk => trivial))); (case aS => exact (below_size (by repeat (first | (with_reducible first | exact HB.out | apply below_alloc | apply Zd | apply below_drew1 | refine below_set ?_ GE345.out) | exact HB.out)))); (case aL => have := LMc12.out; have hlx_ := (show ((l0.take (((rd_T40 l1 x11_1).f0) : Int).toNat).drop (x10_1 : Int).toNat).length = (((rd_T40 l1 x11_1).f0).toNat - x10_1.toNat) from (by rw [List.length_drop, List.length_take]; have h_ : (((rd_T40 l1 x11_1).f0) : Int) ≤ (l0.length : Int) := Zo (by first | (with_reducible assumption) | assumption); omega)); omega); intro v348 w20 ho hb hg hat; rw [← Ny347.out] at ho; have n0_ := Zm (blk_grown (g := gb345) (o := .cells #[.int .i64 ((rd_T40 l1 x11_1).f0), .int .i64 ((rd_T40 l1 x11_1).f1), .int .i64 ((rd_T40 l1 x11_1).f2), .int .i64 ((rd_T40 l1 x11_1).f3)] 40 (0, 0)) (by (with_reducible repeat (first | refine blk_drewN ?_ _ | refine blk_drew ?_ | refine blk_alloc ?_ _)); refine blk_put (cs := #[.int .i64 ((rd_T40 l1 x11_1).f0), .int .i64 ((rd_T40 l1 x11_1).f1), .int .i64 ((rd_T40 l1 x11_1).f2), .int .i64 0]) ?_ 3 _ rfl; (with_reducible repeat (first | refine blk_drewN ?_ _ | refine blk_drew ?_ | refine blk_alloc ?_ _)); refine blk_put (cs := #[.int .i64 ((rd_T40 l1 x11_1).f0), .int .i64 ((rd_T40 l1 x11_1).f1), .int .i64 0, .int .i64 0]) ?_ 2 _ rfl; (with_reducible repeat (first | refine blk_drewN ?_ _ | refine blk_drew ?_ | refine blk_alloc ?_ _)); refine blk_put (cs := #[.int .i64 ((rd_T40 l1 x11_1).f0), .int .i64 0, .int .i64 0, .int .i64 0]) ?_ 1 _ rfl; (with_reducible repeat (first | refine blk_drewN ?_ _ | refine blk_drew ?_ | refine blk_alloc ?_ _)); refine blk_put (cs := #[.int .i64 0, .int .i64 0, .int .i64 0, .int .i64 0]) ?_ 0 _ rfl; (with_reducible repeat (first | refine blk_drewN ?_ _ | refine blk_drew ?_ | refine blk_alloc ?_ _)); exact BK345.out) hg (Kd.R_ne HO_9.out BK345.out (by decide))); have n1_ := Zm (hb); have n2_ := Zm (ho); clear BK345; clear HB; clear HO_9; have BK345 := n0_; have HB := n1_; have HO349 := n2_; clear n0_ n1_ n2_; clear ho hb hg hat; have hcz21_0 : w20.cell? ⟨gb345, 0, none⟩ = some (.int .i64 ((rd_T40 l1 x11_1).f0)) := (blk_cell BK345.out 0).trans rfl; have hcz21_1 : w20.cell? ⟨gb345, 1, none⟩ = some (.int .i64 ((rd_T40 l1 x11_1).f1)) := (blk_cell BK345.out 1).trans rfl; have hcz21_2 : w20.cell? ⟨gb345, 2, none⟩ = some (.int .i64 ((rd_T40 l1 x11_1).f2)) := (blk_cell BK345.out 2).trans rfl; have hcz21_3 : w20.cell? ⟨gb345, 3, none⟩ = some (.int .i64 ((rd_T40 l1 x11_1).f3)) := (blk_cell BK345.out 3).trans rfl; have hfz21_0 := blk_frozen BK345.out 0; have hfz21_1 := blk_frozen BK345.out 1; have hfz21_2 := blk_frozen BK345.out 2; have hfz21_3 := blk_frozen BK345.out 3; obtain ⟨i022, hi022, _, hsz22, _⟩ := info_parts info9; obtain ⟨A22, hcut22, hA22, hC22⟩ := print_mid_of (P := Try.prog) Value.string (⟨#[]⟩ : ByteArray) 25 9 .i64 .i64 Try.underlying25 hi022 hsz22 A2 c2 l2 ((rd_T40 l1 x11_1).f2) (wrap64 (((rd_T40 l1 x11_1).f2) + ((rd_T40 l1 x11_1).f3))) (Zo (by first | (with_reducible assumption) | assumption)) (by first | omega | exact Zo (by first | (with_reducible assumption) | assumption)) (Zo (by first | (with_reducible assumption) | assumption)) HC2.out; have HR350 := Zm (Kd.C_of_reads (h1 := fun _ => rfl) (hA22 _ (Kd.reads_of_C HR2.out))); have HC350 := Zm hC22; clear hA22 hC22 hi022 hsz22) | ((with_reducible refine gate_builtin (b := .append) (xs := #[.tmp 38, .tmp 47]) rfl ?_); at_builtin; refine Kd.R_append_rows Kd.string (w0 := w) w.heap.size rfl (.tmp 38) (.tmp 47) 25 9 (.string ⟨#[]⟩) 16 rfl Try.underlying25 info9 rfl (by decide) (by omega) v348 y347 ((l2.take ((wrap64 (((rd_T40 l1 x11_1).f2) + ((rd_T40 l1 x11_1).f3))) : Int).toNat).drop (((rd_T40 l1 x11_1).f2) : Int).toNat) _ _ _ (fun _ => True) (fun _ => False) rfl rfl ?aO ?aR (fun _ _ h => h) (fun _ h => h.elim) ?aF ?aB ?aS ?aL ?_; (case aR => first | (rw [← show ((l2.take ((wrap64 (((rd_T40 l1 x11_1).f2) + ((rd_T40 l1 x11_1).f3))) : Int).toNat).drop (((rd_T40 l1 x11_1).f2) : Int).toNat).length = ((wrap64 (((rd_T40 l1 x11_1).f2) + ((rd_T40 l1 x11_1).f3))).toNat - ((rd_T40 l1 x11_1).f2).toNat) from (by rw [List.length_drop, List.length_take]; have h_ : ((wrap64 (((rd_T40 l1 x11_1).f2) + ((rd_T40 l1 x11_1).f3))) : Int) ≤ (l2.length : Int) := Zo (by first | (with_reducible assumption) | assumption); omega)]; repeat (first | exact (Kd.C_below HR350.out HB.out) | (with_reducible refine Kd.C_alloc ?_ _) | (with_reducible refine Kd.C_drewN ?_ _) | (with_reducible refine Kd.C_drew ?_))) | (repeat (first | exact (Kd.C_below HR350.out HB.out) | (with_reducible refine Kd.C_alloc ?_ _) | (with_reducible refine Kd.C_drewN ?_ _) | (with_reducible refine Kd.C_drew ?_)))); (case aB => exact (by repeat (first | (with_reducible first | exact HB.out | apply below_alloc | apply Zd | apply below_drew1 | refine below_set ?_ GE345.out) | exact HB.out))); (case aF => exact (fun _ _ => trivial)); (case aO => exact (by (with_reducible repeat (first | apply Kd.R_alloc | apply Kd.R_drewN | apply Kd.R_drew)); exact HO349.out)); (case aS => exact (below_size (by repeat (first | (with_reducible first | exact HB.out | apply below_alloc | apply Zd | apply below_drew1 | refine below_set ?_ GE345.out) | exact HB.out)))); (case aL => have := LMc16.out; have hlx_ := (show ((l2.take ((wrap64 (((rd_T40 l1 x11_1).f2) + ((rd_T40 l1 x11_1).f3))) : Int).toNat).drop (((rd_T40 l1 x11_1).f2) : Int).toNat).length = ((wrap64 (((rd_T40 l1 x11_1).f2) + ((rd_T40 l1 x11_1).f3))).toNat - ((rd_T40 l1 x11_1).f2).toNat) from (by rw [List.length_drop, List.length_take]; have h_ : ((wrap64 (((rd_T40 l1 x11_1).f2) + ((rd_T40 l1 x11_1).f3))) : Int) ≤ (l2.length : Int) := Zo (by first | (with_reducible assumption) | assumption); omega)); omega); intro v352 w23 ho hb hg hat; rw [← Ny351.out] at ho; have n0_ := Zm (blk_grown (g := gb345) (o := .cells #[.int .i64 ((rd_T40 l1 x11_1).f0), .int .i64 ((rd_T40 l1 x11_1).f1), .int .i64 ((rd_T40 l1 x11_1).f2), .int .i64 ((rd_T40 l1 x11_1).f3)] 40 (0, 0)) (by (with_reducible repeat (first | refine blk_drewN ?_ _ | refine blk_drew ?_ | refine blk_alloc ?_ _)); exact BK345.out) hg (Kd.R_ne HO349.out BK345.out (by decide))); have n1_ := Zm (hb); have n2_ := Zm (ho); clear BK345; clear HB; clear HO349; have BK345 := n0_; have HB := n1_; have HO353 := n2_; clear n0_ n1_ n2_; clear ho hb hg hat; have hcz24_0 : w23.cell? ⟨gb345, 0, none⟩ = some (.int .i64 ((rd_T40 l1 x11_1).f0)) := (blk_cell BK345.out 0).trans rfl; have hcz24_1 : w23.cell? ⟨gb345, 1, none⟩ = some (.int .i64 ((rd_T40 l1 x11_1).f1)) := (blk_cell BK345.out 1).trans rfl; have hcz24_2 : w23.cell? ⟨gb345, 2, none⟩ = some (.int .i64 ((rd_T40 l1 x11_1).f2)) := (blk_cell BK345.out 2).trans rfl; have hcz24_3 : w23.cell? ⟨gb345, 3, none⟩ = some (.int .i64 ((rd_T40 l1 x11_1).f3)) := (blk_cell BK345.out 3).trans rfl; have hfz24_0 := blk_frozen BK345.out 0; have hfz24_1 := blk_frozen BK345.out 1; have hfz24_2 := blk_frozen BK345.out 2; have hfz24_3 := blk_frozen BK345.out 3))
              go_roundg k1
              case measure => have := HK1.out; omega
              case rel => exact ⟨(y351), (wrap64 (((rd_T40 l1 x11_1).f0) + ((rd_T40 l1 x11_1).f1))), (wrap64 (x11_1 + 1)), (by first | rfl | (simp; done) | (simp [*]; done)), (by first | rfl | (simp; done) | (simp [*]; done)), H', ⟨by have := HK1.out; omega⟩, ⟨by (with_reducible repeat (first | apply Kd.R_alloc | apply Kd.R_drewN | apply Kd.R_drew)); first | exact HO353.out | exact Kd.R_mono HO353.out (fun _ _ => trivial)⟩, ⟨by repeat (first | (with_reducible first | exact HB.out | apply below_alloc | apply Zd | apply below_drew1 | refine below_set ?_ GE345.out) | exact HB.out)⟩⟩
             ·rw [if_neg c16] at H
              exact absurd H (by simp)
            ·rw [if_neg c15] at H
             exact absurd H (by simp)
           ·rw [if_neg c14] at H
            exact absurd H (by simp)
          ·rw [if_neg c13] at H
           exact absurd H (by simp)
         ·rw [if_neg c12] at H
          exact absurd H (by simp)
        ·rw [if_neg c11] at H
         exact absurd H (by simp)
       ·rw [if_neg c10] at H
        exact absurd H (by simp)
      ·rw [if_neg c9] at H
       exact absurd H (by simp)
     ·rw [if_neg c8] at H
      exact absurd H (by simp)
    ·rw [if_neg c7] at H
     have c7b0 : decide (x11_1 < (l1.length : Int)) = false := decide_eq_false c7
     clear c7
     by_cases c25 : 0 ≤ x10_1
     ·rw [if_pos c25] at H
      have c25b0 := eq_true c25
      have c25b1 : decide (0 ≤ x10_1) = true := decide_eq_true c25
      clear c25
      by_cases c26 : x10_1 ≤ (l0.length : Int)
      ·rw [if_pos c26] at H
       have c26b0 := eq_true c26
       have c26b1 : decide (x10_1 ≤ (l0.length : Int)) = true := decide_eq_true c26
       clear c26
       by_cases c27 : x9_1.length + (l0.drop (x10_1 : Int).toNat).length < 8796093022208
       ·rw [if_pos c27] at H
        have LMc27 := Zm c27
        clear c27
        obtain ⟨y355, hy355⟩ : ∃ y_ : List ByteArray, y_ = (x9_1 ++ (l0.drop (x10_1 : Int).toNat)) := ⟨_, rfl⟩
        replace H : (some (y355, 0)) = some (r1, r2) := by first | (rw [hy355]; with_reducible exact H) | (have H2_ := (Option.bind_some _ _).symm.trans H; rw [hy355]; with_reducible exact H2_) | (have H2_ := (Option.bind_some _ _).symm.trans H; with_reducible exact H2_) | with_reducible exact H | (rw [hy355]; exact H) | exact H
        have Ny355 := Zm hy355
        clear hy355
        simp only [Option.some.injEq, Prod.mk.injEq] at H
        obtain ⟨rfl, rfl⟩ := H
        obtain ⟨i028, hi028, _, hsz28, _⟩ := info_parts info9
        obtain ⟨A28, hcut28, hA28, hC28⟩ := print_drop_of (P := Try.prog) Value.string (⟨#[]⟩ : ByteArray) 25 9 .i64 Try.underlying25 hi028 hsz28 A0 c0 l0 x10_1 (Zo (by first | (with_reducible assumption) | assumption)) (Zo (by first | (with_reducible assumption) | assumption)) HC0.out
        have HR354 := Zm (Kd.C_of_reads (h1 := fun _ => rfl) (hA28 _ (Kd.reads_of_C HR0.out)))
        have HC354 := Zm hC28
        clear hA28 hC28 hi028 hsz28
        go_wp2_with (first | ((with_reducible refine gate_builtin (b := .append) (xs := #[.tmp 54, .tmp 57]) rfl ?_); at_builtin; refine Kd.R_append_rows Kd.string (w0 := w) w.heap.size rfl (.tmp 54) (.tmp 57) 25 9 (.string ⟨#[]⟩) 16 rfl Try.underlying25 info9 rfl (by decide) (by omega) u9 x9_1 (l0.drop (x10_1 : Int).toNat) _ _ _ (fun _ => True) (fun _ => False) rfl rfl ?aO ?aR (fun _ _ h => h) (fun _ h => h.elim) ?aF ?aB ?aS ?aL ?_; (case aR => first | (rw [← show (l0.drop (x10_1 : Int).toNat).length = (l0.length - x10_1.toNat) from List.length_drop]; repeat (first | exact (Kd.C_below HR354.out HB.out) | (with_reducible refine Kd.C_alloc ?_ _) | (with_reducible refine Kd.C_drewN ?_ _) | (with_reducible refine Kd.C_drew ?_))) | (repeat (first | exact (Kd.C_below HR354.out HB.out) | (with_reducible refine Kd.C_alloc ?_ _) | (with_reducible refine Kd.C_drewN ?_ _) | (with_reducible refine Kd.C_drew ?_)))); (case aB => exact (by repeat (first | (with_reducible first | exact HB.out | apply below_alloc | apply Zd | apply below_drew1) | exact HB.out))); (case aF => exact (fun _ _ => trivial)); (case aO => exact (by (with_reducible repeat (first | apply Kd.R_alloc | apply Kd.R_drewN | apply Kd.R_drew)); exact HO_9.out)); (case aS => exact (below_size (by repeat (first | (with_reducible first | exact HB.out | apply below_alloc | apply Zd | apply below_drew1) | exact HB.out)))); (case aL => have := LMc27.out; have hlx_ := (show (l0.drop (x10_1 : Int).toNat).length = (l0.length - x10_1.toNat) from List.length_drop); omega); intro v356 w29 ho hb hg hat; rw [← Ny355.out] at ho; have n0_ := Zm (hb); have n1_ := Zm (ho); clear HB; clear HO_9; have HB := n0_; have HO357 := n1_; clear n0_ n1_; clear ho hb hg hat))
        go_ret2
        exact ⟨_, by first | rfl | (simp [errW_none, errW_some] <;> rfl) | (simp [*, errW_none, errW_some] <;> rfl), by (with_reducible repeat (first | apply Kd.R_alloc | apply Kd.R_drewN | apply Kd.R_drew)); exact HO357.out, by repeat (first | (with_reducible first | exact HB.out | apply below_alloc | apply Zd | apply below_drew1) | exact HB.out)⟩
       ·rw [if_neg c27] at H
        exact absurd H (by simp)
      ·rw [if_neg c26] at H
       exact absurd H (by simp)
     ·rw [if_neg c25] at H
      exact absurd H (by simp)
 ·replace c5 := Bool.eq_false_iff.mpr c5
  subst c5
  have H1 : (some (([] : List ByteArray), 60)) = some (r1, r2) := by rw [if_neg (show ¬ (false = true) by decide)] at H; exact H
  clear H
  have H := H1
  clear H1
  simp only [Option.some.injEq, Prod.mk.injEq] at H
  obtain ⟨rfl, rfl⟩ := H
  go_enter Try.func15, Try.ntmps15
  go_wp2_with (first | ((with_reducible refine gate_callee (f := 16) rfl ?_); refine goesL_ (some 18) rfl rfl Try.func16 (by kernel_rfl) rfl #[.slice A1 l1.length c1, .int .i64 (l0.length : Int), .int .i64 (l2.length : Int)] rfl (by (try simp only [List.map_toArray, List.map_cons, List.map_nil]); first | done | rfl | (simp only [List.length_drop, List.length_take]; rfl)) ?_; (with_reducible refine (r06_May.calls k _ _ l1 (l0.length : Int) (l2.length : Int) false _ ?side1 ?side2 A4.out).mono ?_); (case side1 => repeat (first | exact HR1.out | (with_reducible refine Kd.C_alloc ?_ _) | (with_reducible refine Kd.C_drewN ?_ _) | (with_reducible refine Kd.C_drew ?_))); (case side2 => exact HC1.out); rintro e w30 ⟨rfl, hb⟩; refine ⟨_, rfl, ?_⟩; have n0_ := Zm (below_step (by repeat (first | (with_reducible first | exact HB.out | apply below_alloc | apply Zd | apply below_drew1) | exact HB.out)) hb); clear HB; have HB := n0_; clear n0_; (try clear hb); (try clear hb2); (try clear hk); (try clear hi)))
  go_ret2
  exact ⟨_, by first | rfl | (simp [errW_none, errW_some] <;> rfl) | (simp [*, errW_none, errW_some] <;> rfl), by first | exact Kd.R_nil _ _ _ _ _ | exact Kd.N_nil _ _ _ _ _ | exact Kd.V_nil _ _ _ _ _ | exact Kd.Q_nil _ _ _ _ _ | exact Kd.S_nil _ _ _ _ _, by repeat (first | (with_reducible first | exact HB.out | apply below_alloc | apply Zd | apply below_drew1) | exact HB.out)⟩
end Go.Proofs.Ytphghffdaceaoaa.PHunk
