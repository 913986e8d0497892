/- Laid by a program of this session out of the seat's translation. -/
import Derived.Test.YtphghffdaceaoaaPHunkx0
namespace Go.Proofs.Ytphghffdaceaoaa.PHunk
open Go.RowKit Go.Proofs.YtphghffdaceaoaaW.PrintWords Go.Proofs.YtphghffdaceaoaaW.PrintLast Go.Proofs.YtphghffdaceaoaaW.PrintMore
attribute [local go_sem] max2_int min2_int max_two min_two max_three min_three max_four min_four   -- for this text's walks alone
set_option linter.unusedVariables false
set_option linter.unusedSimpArgs false
/-! ### hunk_Check: function 17 -/
mutual
def hunk_Check.l0 : Nat → Int → Int → Int → Int → List (S40) → Int → Int → Option (Int)
 | 0, _, _, _, _, _, _, _ => none
 | k + 1, x1, x2, x7, x8, x12, x13, x14 => if x14 < x13 then (if 0 ≤ x14 then (if x14 < (x12.length : Int) then (if ((rd_T40 x12 x14).f0) < x7 then (hunk_Check.j1 k x1 x2 x12 x13 x14 (decide (((rd_T40 x12 x14).f0) < x7)) ((rd_T40 x12 x14).f0) ((rd_T40 x12 x14).f1) ((rd_T40 x12 x14).f2) ((rd_T40 x12 x14).f3)) else (if ((rd_T40 x12 x14).f2) < x8 then (hunk_Check.j1 k x1 x2 x12 x13 x14 (decide (((rd_T40 x12 x14).f2) < x8)) ((rd_T40 x12 x14).f0) ((rd_T40 x12 x14).f1) ((rd_T40 x12 x14).f2) ((rd_T40 x12 x14).f3)) else (if (wrap64 (((rd_T40 x12 x14).f0) - x7)) = (wrap64 (((rd_T40 x12 x14).f2) - x8)) then (if x14 > 0 then (hunk_Check.j1 k x1 x2 x12 x13 x14 ((wrap64 (((rd_T40 x12 x14).f0) - x7)) == 0) ((rd_T40 x12 x14).f0) ((rd_T40 x12 x14).f1) ((rd_T40 x12 x14).f2) ((rd_T40 x12 x14).f3)) else (hunk_Check.j1 k x1 x2 x12 x13 x14 false ((rd_T40 x12 x14).f0) ((rd_T40 x12 x14).f1) ((rd_T40 x12 x14).f2) ((rd_T40 x12 x14).f3))) else (hunk_Check.j1 k x1 x2 x12 x13 x14 ((wrap64 (((rd_T40 x12 x14).f0) - x7)) != (wrap64 (((rd_T40 x12 x14).f2) - x8))) ((rd_T40 x12 x14).f0) ((rd_T40 x12 x14).f1) ((rd_T40 x12 x14).f2) ((rd_T40 x12 x14).f3))))) else (none)) else (none)) else (if (wrap64 (x1 - x7)) = (wrap64 (x2 - x8)) then (if x1 < x7 then (some 60) else (some 0)) else (some 60))
def hunk_Check.j1 : Nat → Int → Int → List (S40) → Int → Int → Bool → Int → Int → Int → Int → Option (Int)
 | 0, _, _, _, _, _, _, _, _, _, _ => none
 | k + 1, x1, x2, x12, x13, x14, x23, x176000, x176001, x176002, x176003 => if x23 = true then (some 60) else (if x176001 < 0 then (hunk_Check.j2 k x1 x2 x12 x13 x14 (decide (x176001 < 0)) x176000 x176001 x176002 x176003) else (if x176003 < 0 then (hunk_Check.j2 k x1 x2 x12 x13 x14 (decide (x176003 < 0)) x176000 x176001 x176002 x176003) else (if x176001 = 0 then (hunk_Check.j2 k x1 x2 x12 x13 x14 (x176003 == 0) x176000 x176001 x176002 x176003) else (hunk_Check.j2 k x1 x2 x12 x13 x14 false x176000 x176001 x176002 x176003))))
def hunk_Check.j2 : Nat → Int → Int → List (S40) → Int → Int → Bool → Int → Int → Int → Int → Option (Int)
 | 0, _, _, _, _, _, _, _, _, _, _ => none
 | k + 1, x1, x2, x12, x13, x14, x44, x176000, x176001, x176002, x176003 => if x44 = true then (some 60) else (if x176000 > x1 then (some 60) else (if x176002 > x2 then (some 60) else (if x176001 > (wrap64 (x1 - x176000)) then (some 60) else (if x176003 > (wrap64 (x2 - x176002)) then (some 60) else (hunk_Check.l0 k x1 x2 (wrap64 (x176000 + x176001)) (wrap64 (x176002 + x176003)) x12 x13 (wrap64 (x14 + 1)))))))
end
def hunk_Check.f (k : Nat) (l0 : List (S40)) (a1 : Int) (a2 : Int) : Option (Int) := hunk_Check.l0 k a1 a2 0 0 l0 (l0.length : Int) 0
theorem hunk_Check.mono_l : ∀ k, (∀ y0 y1 y2 y3 y4 y5 y6, LeO (hunk_Check.l0 k y0 y1 y2 y3 y4 y5 y6) (hunk_Check.l0 (k + 1) y0 y1 y2 y3 y4 y5 y6)) ∧ (∀ y0 y1 y2 y3 y4 y5 y6 y7 y8 y9, LeO (hunk_Check.j1 k y0 y1 y2 y3 y4 y5 y6 y7 y8 y9) (hunk_Check.j1 (k + 1) y0 y1 y2 y3 y4 y5 y6 y7 y8 y9)) ∧ (∀ y0 y1 y2 y3 y4 y5 y6 y7 y8 y9, LeO (hunk_Check.j2 k y0 y1 y2 y3 y4 y5 y6 y7 y8 y9) (hunk_Check.j2 (k + 1) y0 y1 y2 y3 y4 y5 y6 y7 y8 y9))
 | 0 => ⟨fun _ _ _ _ _ _ _ r h => by simp [hunk_Check.l0] at h, fun _ _ _ _ _ _ _ _ _ _ r h => by simp [hunk_Check.j1] at h, fun _ _ _ _ _ _ _ _ _ _ r h => by simp [hunk_Check.j2] at h⟩
 | k + 1 => by
  obtain ⟨ih0, ih1, ih2⟩ := hunk_Check.mono_l k
  refine ⟨?_, ?_, ?_⟩
  ·intro y0 y1 y2 y3 y4 y5 y6
   unfold hunk_Check.l0
   repeat' first
   | (with_reducible exact ih0 _ _ _ _ _ _ _)
   | (with_reducible exact ih1 _ _ _ _ _ _ _ _ _ _)
   | (with_reducible exact ih2 _ _ _ _ _ _ _ _ _ _)
   | (with_reducible exact LeO.refl _)
   | (with_reducible exact LeO.none _)
   | (with_reducible refine LeO.ite ?_ ?_)
   | (with_reducible refine LeO.bind ?_ (fun _ => ?_))
   | exact ih0 _ _ _ _ _ _ _
   | exact ih1 _ _ _ _ _ _ _ _ _ _
   | exact ih2 _ _ _ _ _ _ _ _ _ _
   | exact LeO.none _
   | refine LeO.ite ?_ ?_
   | refine LeO.bind ?_ (fun _ => ?_)
  ·intro y0 y1 y2 y3 y4 y5 y6 y7 y8 y9
   unfold hunk_Check.j1
   repeat' first
   | (with_reducible exact ih0 _ _ _ _ _ _ _)
   | (with_reducible exact ih1 _ _ _ _ _ _ _ _ _ _)
   | (with_reducible exact ih2 _ _ _ _ _ _ _ _ _ _)
   | (with_reducible exact LeO.refl _)
   | (with_reducible exact LeO.none _)
   | (with_reducible refine LeO.ite ?_ ?_)
   | (with_reducible refine LeO.bind ?_ (fun _ => ?_))
   | exact ih0 _ _ _ _ _ _ _
   | exact ih1 _ _ _ _ _ _ _ _ _ _
   | exact ih2 _ _ _ _ _ _ _ _ _ _
   | exact LeO.none _
   | refine LeO.ite ?_ ?_
   | refine LeO.bind ?_ (fun _ => ?_)
  ·intro y0 y1 y2 y3 y4 y5 y6 y7 y8 y9
   unfold hunk_Check.j2
   repeat' first
   | (with_reducible exact ih0 _ _ _ _ _ _ _)
   | (with_reducible exact ih1 _ _ _ _ _ _ _ _ _ _)
   | (with_reducible exact ih2 _ _ _ _ _ _ _ _ _ _)
   | (with_reducible exact LeO.refl _)
   | (with_reducible exact LeO.none _)
   | (with_reducible refine LeO.ite ?_ ?_)
   | (with_reducible refine LeO.bind ?_ (fun _ => ?_))
   | exact ih0 _ _ _ _ _ _ _
   | exact ih1 _ _ _ _ _ _ _ _ _ _
   | exact ih2 _ _ _ _ _ _ _ _ _ _
   | exact LeO.none _
   | refine LeO.ite ?_ ?_
   | refine LeO.bind ?_ (fun _ => ?_)
theorem hunk_Check.mono : ∀ a0 a1 a2 k, LeO (hunk_Check.f k a0 a1 a2) (hunk_Check.f (k + 1) a0 a1 a2) := by
 intro a0 a1 a2 k
 obtain ⟨ih0, ih1, ih2⟩ := hunk_Check.mono_l k
 unfold hunk_Check.f
 repeat' first
   | (with_reducible exact ih0 _ _ _ _ _ _ _)
   | (with_reducible exact ih1 _ _ _ _ _ _ _ _ _ _)
   | (with_reducible exact ih2 _ _ _ _ _ _ _ _ _ _)
   | (with_reducible exact LeO.refl _)
   | (with_reducible exact LeO.none _)
   | (with_reducible refine LeO.ite ?_ ?_)
   | (with_reducible refine LeO.bind ?_ (fun _ => ?_))
   | exact ih0 _ _ _ _ _ _ _
   | exact ih1 _ _ _ _ _ _ _ _ _ _
   | exact ih2 _ _ _ _ _ _ _ _ _ _
   | exact LeO.none _
   | refine LeO.ite ?_ ?_
   | refine LeO.bind ?_ (fun _ => ?_)
set_option maxHeartbeats 8000000 in
set_option maxRecDepth 100000 in
theorem hunk_Check.calls (k : Nat) (A0 : Option Addr) (c0 : Nat) (l0 : List (S40)) (a1 : Int) (a2 : Int) (r : Int) (w : World) (hr0 : Kd.C k40 w A0 l0.length l0) (hc0 : l0.length ≤ c0) (h : hunk_Check.f k l0 a1 a2 = some r) :
  Calls Try.prog 17 #[.slice A0 l0.length c0, .int .i64 a1, .int .i64 a2] w fun e w' => e = .returned (.int .i64 r) ∧ Below w.heap.size w w' := by
 have hu40 := Try.underlying40
 have HR0 := Zm hr0
 have HC0 := Zm hc0
 clear hr0 hc0
 have HB := Zm (Below.refl w.heap.size w)
 have H : (hunk_Check.l0 k a1 a2 0 0 l0 (l0.length : Int) 0) = some r := h
 clear h
 have H' := Zm H
 clear H
 go_enter Try.func17, Try.ntmps17
 go_wp2
 repeat (go_quiet (fail); try go_wp2)
 go_loopg [7, 8, 14] k (fun kq v7 v8 v14 w' => ∃ (x7_1 : Int) (x8_1 : Int) (x14_1 : Int), v7 = .int .i64 x7_1 ∧ v8 = .int .i64 x8_1 ∧ v14 = .int .i64 x14_1 ∧ Aside0 (hunk_Check.l0 kq a1 a2 x7_1 x8_1 l0 (l0.length : Int) x14_1 = some r) ∧ Aside0 (kq ≤ k) ∧ Aside0 (Below w.heap.size w w'))
 case atStart => exact ⟨(0), (0), (0), (by first | rfl | (simp; done) | (simp [*]; done)), (by first | rfl | (simp; done) | (simp [*]; done)), (by first | rfl | (simp; done) | (simp [*]; done)), H', ⟨Nat.le_refl _⟩, ⟨by repeat (first | (with_reducible first | exact HB.out | apply below_alloc | apply Zd | apply below_drew1) | exact HB.out)⟩⟩
 case round =>
  clear H'
  try clear c1
  try clear p2
  obtain ⟨x7_1, x8_1, x14_1, rfl, rfl, rfl, HA, HK1, HB⟩ := hrel
  cases gk with
  | zero => exact absurd HA.out (by simp [hunk_Check.l0])
  | succ k1 =>
   have H := HA.out
   clear HA
   simp only [hunk_Check.l0] at H
   by_cases c4 : x14_1 < (l0.length : Int)
   ·rw [if_pos c4] at H
    have c4b0 : decide (x14_1 < (l0.length : Int)) = true := decide_eq_true c4
    clear c4
    by_cases c5 : 0 ≤ x14_1
    ·rw [if_pos c5] at H
     have c5b0 : decide (0 ≤ x14_1) = true := decide_eq_true c5
     clear c5
     by_cases c6 : x14_1 < (l0.length : Int)
     ·rw [if_pos c6] at H
      have c6b0 : decide (x14_1 < (l0.length : Int)) = true := decide_eq_true c6
      clear c6
      have HC7 := Zm H
      clear H
      have p174 : 0 ≤ (x14_1 : Int) := Zo (by first | (with_reducible assumption) | assumption)
      have q174 : x14_1 < (l0.length : Int) := Zo (by first | (with_reducible assumption) | assumption)
      obtain ⟨ad174, e174, hx174_0, hx174_1, hx174_2, hx174_3⟩ := at_T40 HR0.out x14_1 p174 q174
      cases e174
      replace hx174_0 := (HB.out.cell (World.block_lt_of_cell? w _ hx174_0)).trans hx174_0
      replace hx174_1 := (HB.out.cell (World.block_lt_of_cell? w _ hx174_1)).trans hx174_1
      replace hx174_2 := (HB.out.cell (World.block_lt_of_cell? w _ hx174_2)).trans hx174_2
      replace hx174_3 := (HB.out.cell (World.block_lt_of_cell? w _ hx174_3)).trans hx174_3
      replace p174 := eq_true p174
      replace q174 := eq_true q174
      go_upto_if 23 with (first | ((with_reducible refine gate_dst (N := 10) rfl ?_); refine box_event ?hg (N := 10) ?hd (cs := #[.int .i64 0, .int .i64 0, .int .i64 0, .int .i64 0]) (t := 40) ?hr ?_; (case hd => rfl); (case hg => rfl); (case hr => first | (go_simp; done) | (go_simp; rfl)); intro gb175 hg w8 hbox hb; have n0_ := Zm (below_step (by repeat (first | (with_reducible first | exact HB.out | apply below_alloc | apply Zd | apply below_drew1) | exact HB.out)) hb); have n1_ := Zm (hbox); have n2_ := Zm ((by rw [hg]; exact (below_size (by repeat (first | (with_reducible first | exact HB.out | apply below_alloc | apply Zd | apply below_drew1) | exact HB.out))) : w.heap.size ≤ gb175)); have n3_ := Zm ((by rw [hg]; exact (below_size (by repeat (first | (with_reducible first | exact HB.out | apply below_alloc | apply Zd | apply below_drew1) | exact HB.out))) : w.heap.size ≤ gb175)); clear HB; have HB := n0_; have BK175 := n1_; have GW175 := n2_; have GE175 := n3_; clear n0_ n1_ n2_ n3_; clear hb hbox hg; have hcz9_0 : w8.cell? ⟨gb175, 0, none⟩ = some (.int .i64 0) := (blk_cell BK175.out 0).trans rfl; have hcz9_1 : w8.cell? ⟨gb175, 1, none⟩ = some (.int .i64 0) := (blk_cell BK175.out 1).trans rfl; have hcz9_2 : w8.cell? ⟨gb175, 2, none⟩ = some (.int .i64 0) := (blk_cell BK175.out 2).trans rfl; have hcz9_3 : w8.cell? ⟨gb175, 3, none⟩ = some (.int .i64 0) := (blk_cell BK175.out 3).trans rfl; have hfz9_0 := blk_frozen BK175.out 0; have hfz9_1 := blk_frozen BK175.out 1; have hfz9_2 := blk_frozen BK175.out 2; have hfz9_3 := blk_frozen BK175.out 3))
      repeat (go_quiet (first | ((with_reducible refine gate_dst (N := 10) rfl ?_); refine box_event ?hg (N := 10) ?hd (cs := #[.int .i64 0, .int .i64 0, .int .i64 0, .int .i64 0]) (t := 40) ?hr ?_; (case hd => rfl); (case hg => rfl); (case hr => first | (go_simp; done) | (go_simp; rfl)); intro gb175 hg w8 hbox hb; have n0_ := Zm (below_step (by repeat (first | (with_reducible first | exact HB.out | apply below_alloc | apply Zd | apply below_drew1) | exact HB.out)) hb); have n1_ := Zm (hbox); have n2_ := Zm ((by rw [hg]; exact (below_size (by repeat (first | (with_reducible first | exact HB.out | apply below_alloc | apply Zd | apply below_drew1) | exact HB.out))) : w.heap.size ≤ gb175)); have n3_ := Zm ((by rw [hg]; exact (below_size (by repeat (first | (with_reducible first | exact HB.out | apply below_alloc | apply Zd | apply below_drew1) | exact HB.out))) : w.heap.size ≤ gb175)); clear HB; have HB := n0_; have BK175 := n1_; have GW175 := n2_; have GE175 := n3_; clear n0_ n1_ n2_ n3_; clear hb hbox hg; have hcz9_0 : w8.cell? ⟨gb175, 0, none⟩ = some (.int .i64 0) := (blk_cell BK175.out 0).trans rfl; have hcz9_1 : w8.cell? ⟨gb175, 1, none⟩ = some (.int .i64 0) := (blk_cell BK175.out 1).trans rfl; have hcz9_2 : w8.cell? ⟨gb175, 2, none⟩ = some (.int .i64 0) := (blk_cell BK175.out 2).trans rfl; have hcz9_3 : w8.cell? ⟨gb175, 3, none⟩ = some (.int .i64 0) := (blk_cell BK175.out 3).trans rfl; have hfz9_0 := blk_frozen BK175.out 0; have hfz9_1 := blk_frozen BK175.out 1; have hfz9_2 := blk_frozen BK175.out 2; have hfz9_3 := blk_frozen BK175.out 3)); go_upto_if 23 with (first | ((with_reducible refine gate_dst (N := 10) rfl ?_); refine box_event ?hg (N := 10) ?hd (cs := #[.int .i64 0, .int .i64 0, .int .i64 0, .int .i64 0]) (t := 40) ?hr ?_; (case hd => rfl); (case hg => rfl); (case hr => first | (go_simp; done) | (go_simp; rfl)); intro gb175 hg w8 hbox hb; have n0_ := Zm (below_step (by repeat (first | (with_reducible first | exact HB.out | apply below_alloc | apply Zd | apply below_drew1) | exact HB.out)) hb); have n1_ := Zm (hbox); have n2_ := Zm ((by rw [hg]; exact (below_size (by repeat (first | (with_reducible first | exact HB.out | apply below_alloc | apply Zd | apply below_drew1) | exact HB.out))) : w.heap.size ≤ gb175)); have n3_ := Zm ((by rw [hg]; exact (below_size (by repeat (first | (with_reducible first | exact HB.out | apply below_alloc | apply Zd | apply below_drew1) | exact HB.out))) : w.heap.size ≤ gb175)); clear HB; have HB := n0_; have BK175 := n1_; have GW175 := n2_; have GE175 := n3_; clear n0_ n1_ n2_ n3_; clear hb hbox hg; have hcz9_0 : w8.cell? ⟨gb175, 0, none⟩ = some (.int .i64 0) := (blk_cell BK175.out 0).trans rfl; have hcz9_1 : w8.cell? ⟨gb175, 1, none⟩ = some (.int .i64 0) := (blk_cell BK175.out 1).trans rfl; have hcz9_2 : w8.cell? ⟨gb175, 2, none⟩ = some (.int .i64 0) := (blk_cell BK175.out 2).trans rfl; have hcz9_3 : w8.cell? ⟨gb175, 3, none⟩ = some (.int .i64 0) := (blk_cell BK175.out 3).trans rfl; have hfz9_0 := blk_frozen BK175.out 0; have hfz9_1 := blk_frozen BK175.out 1; have hfz9_2 := blk_frozen BK175.out 2; have hfz9_3 := blk_frozen BK175.out 3)))
      (try simp only [Act.put, List.setIfInBounds_toArray, List.set_cons_zero, List.set_cons_succ])
      go_cut [23] (fun v23 wc => ∃ (kq : Nat) (x23_6 : Bool), v23 = .bool x23_6 ∧ Aside0 (hunk_Check.j1 kq a1 a2 l0 (l0.length : Int) x14_1 x23_6 ((rd_T40 l0 x14_1).f0) ((rd_T40 l0 x14_1).f1) ((rd_T40 l0 x14_1).f2) ((rd_T40 l0 x14_1).f3) = some r) ∧ Aside0 (kq ≤ k1) ∧ Aside0 (wc.heap[gb175]? = some (.cells #[.int .i64 ((rd_T40 l0 x14_1).f0), .int .i64 ((rd_T40 l0 x14_1).f1), .int .i64 ((rd_T40 l0 x14_1).f2), .int .i64 ((rd_T40 l0 x14_1).f3)] 40 (0, 0))) ∧ Aside0 (Below w.heap.size w wc))
      case first =>
       have H := HC7.out
       clear HC7
       by_cases c10 : ((rd_T40 l0 x14_1).f0) < x7_1
       ·rw [if_pos c10] at H
        have c10b0 : decide (((rd_T40 l0 x14_1).f0) < x7_1) = true := decide_eq_true c10
        clear c10
        (first | rw [c10b0] | (simp only [i64_w, i32_w]; rw [c10b0]) | skip)
        have H' := Zm H
        clear H
        go_wp2
        repeat (go_quiet (fail); try go_wp2)
        go_meet
        case rel => exact ⟨_, (decide (((rd_T40 l0 x14_1).f0) < x7_1)), (by first | rfl | (simp; done) | (simp [*]; done)), H', ⟨by have := HK1.out; first | omega | exact Nat.le_refl _⟩, ⟨by (with_reducible repeat (first | refine blk_drewN ?_ _ | refine blk_drew ?_ | refine blk_alloc ?_ _)); refine blk_put (cs := #[.int .i64 ((rd_T40 l0 x14_1).f0), .int .i64 ((rd_T40 l0 x14_1).f1), .int .i64 ((rd_T40 l0 x14_1).f2), .int .i64 0]) ?_ 3 _ rfl; (with_reducible repeat (first | refine blk_drewN ?_ _ | refine blk_drew ?_ | refine blk_alloc ?_ _)); refine blk_put (cs := #[.int .i64 ((rd_T40 l0 x14_1).f0), .int .i64 ((rd_T40 l0 x14_1).f1), .int .i64 0, .int .i64 0]) ?_ 2 _ rfl; (with_reducible repeat (first | refine blk_drewN ?_ _ | refine blk_drew ?_ | refine blk_alloc ?_ _)); refine blk_put (cs := #[.int .i64 ((rd_T40 l0 x14_1).f0), .int .i64 0, .int .i64 0, .int .i64 0]) ?_ 1 _ rfl; (with_reducible repeat (first | refine blk_drewN ?_ _ | refine blk_drew ?_ | refine blk_alloc ?_ _)); refine blk_put (cs := #[.int .i64 0, .int .i64 0, .int .i64 0, .int .i64 0]) ?_ 0 _ rfl; (with_reducible repeat (first | refine blk_drewN ?_ _ | refine blk_drew ?_ | refine blk_alloc ?_ _)); exact BK175.out⟩, ⟨by repeat (first | (with_reducible first | exact HB.out | apply below_alloc | apply Zd | apply below_drew1 | refine below_set ?_ GE175.out) | exact HB.out)⟩⟩
       ·rw [if_neg c10] at H
        have c10b0 : decide (((rd_T40 l0 x14_1).f0) < x7_1) = false := decide_eq_false c10
        clear c10
        (first | rw [c10b0] | (simp only [i64_w, i32_w]; rw [c10b0]) | skip)
        by_cases c11 : ((rd_T40 l0 x14_1).f2) < x8_1
        ·rw [if_pos c11] at H
         have c11b0 : decide (((rd_T40 l0 x14_1).f2) < x8_1) = true := decide_eq_true c11
         clear c11
         have H' := Zm H
         clear H
         have hcz12_0 : w8.cell? ⟨gb175, 0, none⟩ = some (.int .i64 0) := (blk_cell BK175.out 0).trans rfl
         have hcz12_1 : w8.cell? ⟨gb175, 1, none⟩ = some (.int .i64 0) := (blk_cell BK175.out 1).trans rfl
         have hcz12_2 : w8.cell? ⟨gb175, 2, none⟩ = some (.int .i64 0) := (blk_cell BK175.out 2).trans rfl
         have hcz12_3 : w8.cell? ⟨gb175, 3, none⟩ = some (.int .i64 0) := (blk_cell BK175.out 3).trans rfl
         have hfz12_0 := blk_frozen BK175.out 0
         have hfz12_1 := blk_frozen BK175.out 1
         have hfz12_2 := blk_frozen BK175.out 2
         have hfz12_3 := blk_frozen BK175.out 3
         go_wp2
         repeat (go_quiet (fail); try go_wp2)
         go_meet
         case rel => exact ⟨_, (decide (((rd_T40 l0 x14_1).f2) < x8_1)), (by first | rfl | (simp; done) | (simp [*]; done)), H', ⟨by have := HK1.out; first | omega | exact Nat.le_refl _⟩, ⟨by (with_reducible repeat (first | refine blk_drewN ?_ _ | refine blk_drew ?_ | refine blk_alloc ?_ _)); refine blk_put (cs := #[.int .i64 ((rd_T40 l0 x14_1).f0), .int .i64 ((rd_T40 l0 x14_1).f1), .int .i64 ((rd_T40 l0 x14_1).f2), .int .i64 0]) ?_ 3 _ rfl; (with_reducible repeat (first | refine blk_drewN ?_ _ | refine blk_drew ?_ | refine blk_alloc ?_ _)); refine blk_put (cs := #[.int .i64 ((rd_T40 l0 x14_1).f0), .int .i64 ((rd_T40 l0 x14_1).f1), .int .i64 0, .int .i64 0]) ?_ 2 _ rfl; (with_reducible repeat (first | refine blk_drewN ?_ _ | refine blk_drew ?_ | refine blk_alloc ?_ _)); refine blk_put (cs := #[.int .i64 ((rd_T40 l0 x14_1).f0), .int .i64 0, .int .i64 0, .int .i64 0]) ?_ 1 _ rfl; (with_reducible repeat (first | refine blk_drewN ?_ _ | refine blk_drew ?_ | refine blk_alloc ?_ _)); refine blk_put (cs := #[.int .i64 0, .int .i64 0, .int .i64 0, .int .i64 0]) ?_ 0 _ rfl; (with_reducible repeat (first | refine blk_drewN ?_ _ | refine blk_drew ?_ | refine blk_alloc ?_ _)); exact BK175.out⟩, ⟨by repeat (first | (with_reducible first | exact HB.out | apply below_alloc | apply Zd | apply below_drew1 | refine below_set ?_ GE175.out) | exact HB.out)⟩⟩
        ·rw [if_neg c11] at H
         have c11b0 : decide (((rd_T40 l0 x14_1).f2) < x8_1) = false := decide_eq_false c11
         clear c11
         by_cases c13 : (wrap64 (((rd_T40 l0 x14_1).f0) - x7_1)) = (wrap64 (((rd_T40 l0 x14_1).f2) - x8_1))
         ·rw [if_pos c13] at H
          have c13b0 : ((wrap64 (((rd_T40 l0 x14_1).f0) - x7_1)) == (wrap64 (((rd_T40 l0 x14_1).f2) - x8_1))) = true := beq_iff_eq.mpr c13
          have c13b1 : ((wrap64 (((rd_T40 l0 x14_1).f0) - x7_1)) != (wrap64 (((rd_T40 l0 x14_1).f2) - x8_1))) = false := bne_eq_false_iff_eq.mpr c13
          clear c13
          by_cases c14 : x14_1 > 0
          ·rw [if_pos c14] at H
           have c14b0 : decide (0 < x14_1) = true := decide_eq_true c14
           clear c14
           have H' := Zm H
           clear H
           have hcz15_0 : w8.cell? ⟨gb175, 0, none⟩ = some (.int .i64 0) := (blk_cell BK175.out 0).trans rfl
           have hcz15_1 : w8.cell? ⟨gb175, 1, none⟩ = some (.int .i64 0) := (blk_cell BK175.out 1).trans rfl
           have hcz15_2 : w8.cell? ⟨gb175, 2, none⟩ = some (.int .i64 0) := (blk_cell BK175.out 2).trans rfl
           have hcz15_3 : w8.cell? ⟨gb175, 3, none⟩ = some (.int .i64 0) := (blk_cell BK175.out 3).trans rfl
           have hfz15_0 := blk_frozen BK175.out 0
           have hfz15_1 := blk_frozen BK175.out 1
           have hfz15_2 := blk_frozen BK175.out 2
           have hfz15_3 := blk_frozen BK175.out 3
           go_wp2
           repeat (go_quiet (fail); try go_wp2)
           go_meet
           case rel => exact ⟨_, (((wrap64 (((rd_T40 l0 x14_1).f0) - x7_1)) == 0)), (by first | rfl | (simp; done) | (simp [*]; done)), H', ⟨by have := HK1.out; first | omega | exact Nat.le_refl _⟩, ⟨by (with_reducible repeat (first | refine blk_drewN ?_ _ | refine blk_drew ?_ | refine blk_alloc ?_ _)); refine blk_put (cs := #[.int .i64 ((rd_T40 l0 x14_1).f0), .int .i64 ((rd_T40 l0 x14_1).f1), .int .i64 ((rd_T40 l0 x14_1).f2), .int .i64 0]) ?_ 3 _ rfl; (with_reducible repeat (first | refine blk_drewN ?_ _ | refine blk_drew ?_ | refine blk_alloc ?_ _)); refine blk_put (cs := #[.int .i64 ((rd_T40 l0 x14_1).f0), .int .i64 ((rd_T40 l0 x14_1).f1), .int .i64 0, .int .i64 0]) ?_ 2 _ rfl; (with_reducible repeat (first | refine blk_drewN ?_ _ | refine blk_drew ?_ | refine blk_alloc ?_ _)); refine blk_put (cs := #[.int .i64 ((rd_T40 l0 x14_1).f0), .int .i64 0, .int .i64 0, .int .i64 0]) ?_ 1 _ rfl; (with_reducible repeat (first | refine blk_drewN ?_ _ | refine blk_drew ?_ | refine blk_alloc ?_ _)); refine blk_put (cs := #[.int .i64 0, .int .i64 0, .int .i64 0, .int .i64 0]) ?_ 0 _ rfl; (with_reducible repeat (first | refine blk_drewN ?_ _ | refine blk_drew ?_ | refine blk_alloc ?_ _)); exact BK175.out⟩, ⟨by repeat (first | (with_reducible first | exact HB.out | apply below_alloc | apply Zd | apply below_drew1 | refine below_set ?_ GE175.out) | exact HB.out)⟩⟩
          ·rw [if_neg c14] at H
           have c14b0 : decide (0 < x14_1) = false := decide_eq_false c14
           clear c14
           have H' := Zm H
           clear H
           have hcz16_0 : w8.cell? ⟨gb175, 0, none⟩ = some (.int .i64 0) := (blk_cell BK175.out 0).trans rfl
           have hcz16_1 : w8.cell? ⟨gb175, 1, none⟩ = some (.int .i64 0) := (blk_cell BK175.out 1).trans rfl
           have hcz16_2 : w8.cell? ⟨gb175, 2, none⟩ = some (.int .i64 0) := (blk_cell BK175.out 2).trans rfl
           have hcz16_3 : w8.cell? ⟨gb175, 3, none⟩ = some (.int .i64 0) := (blk_cell BK175.out 3).trans rfl
           have hfz16_0 := blk_frozen BK175.out 0
           have hfz16_1 := blk_frozen BK175.out 1
           have hfz16_2 := blk_frozen BK175.out 2
           have hfz16_3 := blk_frozen BK175.out 3
           go_wp2
           repeat (go_quiet (fail); try go_wp2)
           go_meet
           case rel => exact ⟨_, (false), (by first | rfl | (simp; done) | (simp [*]; done)), H', ⟨by have := HK1.out; first | omega | exact Nat.le_refl _⟩, ⟨by (with_reducible repeat (first | refine blk_drewN ?_ _ | refine blk_drew ?_ | refine blk_alloc ?_ _)); refine blk_put (cs := #[.int .i64 ((rd_T40 l0 x14_1).f0), .int .i64 ((rd_T40 l0 x14_1).f1), .int .i64 ((rd_T40 l0 x14_1).f2), .int .i64 0]) ?_ 3 _ rfl; (with_reducible repeat (first | refine blk_drewN ?_ _ | refine blk_drew ?_ | refine blk_alloc ?_ _)); refine blk_put (cs := #[.int .i64 ((rd_T40 l0 x14_1).f0), .int .i64 ((rd_T40 l0 x14_1).f1), .int .i64 0, .int .i64 0]) ?_ 2 _ rfl; (with_reducible repeat (first | refine blk_drewN ?_ _ | refine blk_drew ?_ | refine blk_alloc ?_ _)); refine blk_put (cs := #[.int .i64 ((rd_T40 l0 x14_1).f0), .int .i64 0, .int .i64 0, .int .i64 0]) ?_ 1 _ rfl; (with_reducible repeat (first | refine blk_drewN ?_ _ | refine blk_drew ?_ | refine blk_alloc ?_ _)); refine blk_put (cs := #[.int .i64 0, .int .i64 0, .int .i64 0, .int .i64 0]) ?_ 0 _ rfl; (with_reducible repeat (first | refine blk_drewN ?_ _ | refine blk_drew ?_ | refine blk_alloc ?_ _)); exact BK175.out⟩, ⟨by repeat (first | (with_reducible first | exact HB.out | apply below_alloc | apply Zd | apply below_drew1 | refine below_set ?_ GE175.out) | exact HB.out)⟩⟩
         ·rw [if_neg c13] at H
          have c13b0 : ((wrap64 (((rd_T40 l0 x14_1).f0) - x7_1)) == (wrap64 (((rd_T40 l0 x14_1).f2) - x8_1))) = false := beq_eq_false_iff_ne.mpr c13
          have c13b1 : ((wrap64 (((rd_T40 l0 x14_1).f0) - x7_1)) != (wrap64 (((rd_T40 l0 x14_1).f2) - x8_1))) = true := bne_iff_ne.mpr c13
          have H' := Zm H
          clear H
          have hcz17_0 : w8.cell? ⟨gb175, 0, none⟩ = some (.int .i64 0) := (blk_cell BK175.out 0).trans rfl
          have hcz17_1 : w8.cell? ⟨gb175, 1, none⟩ = some (.int .i64 0) := (blk_cell BK175.out 1).trans rfl
          have hcz17_2 : w8.cell? ⟨gb175, 2, none⟩ = some (.int .i64 0) := (blk_cell BK175.out 2).trans rfl
          have hcz17_3 : w8.cell? ⟨gb175, 3, none⟩ = some (.int .i64 0) := (blk_cell BK175.out 3).trans rfl
          have hfz17_0 := blk_frozen BK175.out 0
          have hfz17_1 := blk_frozen BK175.out 1
          have hfz17_2 := blk_frozen BK175.out 2
          have hfz17_3 := blk_frozen BK175.out 3
          go_wp2
          repeat (go_quiet (fail); try go_wp2)
          go_meet
          case rel => exact ⟨_, (((wrap64 (((rd_T40 l0 x14_1).f0) - x7_1)) != (wrap64 (((rd_T40 l0 x14_1).f2) - x8_1)))), (by first | rfl | (simp; done) | (simp [*]; done)), H', ⟨by have := HK1.out; first | omega | exact Nat.le_refl _⟩, ⟨by (with_reducible repeat (first | refine blk_drewN ?_ _ | refine blk_drew ?_ | refine blk_alloc ?_ _)); refine blk_put (cs := #[.int .i64 ((rd_T40 l0 x14_1).f0), .int .i64 ((rd_T40 l0 x14_1).f1), .int .i64 ((rd_T40 l0 x14_1).f2), .int .i64 0]) ?_ 3 _ rfl; (with_reducible repeat (first | refine blk_drewN ?_ _ | refine blk_drew ?_ | refine blk_alloc ?_ _)); refine blk_put (cs := #[.int .i64 ((rd_T40 l0 x14_1).f0), .int .i64 ((rd_T40 l0 x14_1).f1), .int .i64 0, .int .i64 0]) ?_ 2 _ rfl; (with_reducible repeat (first | refine blk_drewN ?_ _ | refine blk_drew ?_ | refine blk_alloc ?_ _)); refine blk_put (cs := #[.int .i64 ((rd_T40 l0 x14_1).f0), .int .i64 0, .int .i64 0, .int .i64 0]) ?_ 1 _ rfl; (with_reducible repeat (first | refine blk_drewN ?_ _ | refine blk_drew ?_ | refine blk_alloc ?_ _)); refine blk_put (cs := #[.int .i64 0, .int .i64 0, .int .i64 0, .int .i64 0]) ?_ 0 _ rfl; (with_reducible repeat (first | refine blk_drewN ?_ _ | refine blk_drew ?_ | refine blk_alloc ?_ _)); exact BK175.out⟩, ⟨by repeat (first | (with_reducible first | exact HB.out | apply below_alloc | apply Zd | apply below_drew1 | refine below_set ?_ GE175.out) | exact HB.out)⟩⟩
      case rest =>
       clear HC7
       try clear c1
       try clear p1
       try clear q1
       try clear hx1
       try clear p2
       try clear c4
       try clear c4b0
       try clear c5
       try clear c5b0
       try clear c6
       try clear c6b0
       try clear p6
       try clear c10
       try clear c10b0
       try clear c11
       try clear c11b0
       try clear c13
       try clear c13b0
       try clear c13b1
       try clear c14
       try clear c14b0
       try clear c17
       try clear p17
       try clear q17
       try clear hx17
       try clear hcz12_0
       try clear hcz12_1
       try clear hcz12_2
       try clear hcz12_3
       try clear hcz15_0
       try clear hcz15_1
       try clear hcz15_2
       try clear hcz15_3
       try clear hcz16_0
       try clear hcz16_1
       try clear hcz16_2
       try clear hcz16_3
       try clear hcz17_0
       try clear hcz17_1
       try clear hcz17_2
       try clear hcz17_3
       try clear hcz9_0
       try clear hcz9_1
       try clear hcz9_2
       try clear hcz9_3
       try clear hfz12_0
       try clear hfz12_1
       try clear hfz12_2
       try clear hfz12_3
       try clear hfz15_0
       try clear hfz15_1
       try clear hfz15_2
       try clear hfz15_3
       try clear hfz16_0
       try clear hfz16_1
       try clear hfz16_2
       try clear hfz16_3
       try clear hfz17_0
       try clear hfz17_1
       try clear hfz17_2
       try clear hfz17_3
       try clear hfz9_0
       try clear hfz9_1
       try clear hfz9_2
       try clear hfz9_3
       try clear hx174_0
       try clear hx174_1
       try clear hx174_2
       try clear hx174_3
       try clear p174
       try clear p2
       try clear q174
       obtain ⟨kq, x23_6, rfl, HA, HJ6, BK175, HB⟩ := hcut
       cases kq with
       | zero => exact absurd HA.out (by simp [hunk_Check.j1])
       | succ kj6 =>
        have H := HA.out
        clear HA
        simp only [hunk_Check.j1] at H
        by_cases c18 : x23_6 = true
        ·subst c18
         have H1 : (some 60) = some r := by rw [if_pos rfl] at H; exact H
         clear H
         have H := H1
         clear H1
         obtain rfl := Option.some.inj H
         go_wp2
         repeat (go_quiet (fail); try go_wp2)
         go_ret
         exact ⟨by first | rfl | (simp [errW_none, errW_some] <;> rfl) | (simp [*, errW_none, errW_some] <;> rfl), by repeat (first | (with_reducible first | exact HB.out | apply below_alloc | apply Zd | apply below_drew1 | refine below_set ?_ GE175.out) | exact HB.out)⟩
        ·replace c18 := Bool.eq_false_iff.mpr c18
         subst c18
         have H1 : (if ((rd_T40 l0 x14_1).f1) < 0 then (hunk_Check.j2 kj6 a1 a2 l0 (l0.length : Int) x14_1 (decide (((rd_T40 l0 x14_1).f1) < 0)) ((rd_T40 l0 x14_1).f0) ((rd_T40 l0 x14_1).f1) ((rd_T40 l0 x14_1).f2) ((rd_T40 l0 x14_1).f3)) else (if ((rd_T40 l0 x14_1).f3) < 0 then (hunk_Check.j2 kj6 a1 a2 l0 (l0.length : Int) x14_1 (decide (((rd_T40 l0 x14_1).f3) < 0)) ((rd_T40 l0 x14_1).f0) ((rd_T40 l0 x14_1).f1) ((rd_T40 l0 x14_1).f2) ((rd_T40 l0 x14_1).f3)) else (if ((rd_T40 l0 x14_1).f1) = 0 then (hunk_Check.j2 kj6 a1 a2 l0 (l0.length : Int) x14_1 (((rd_T40 l0 x14_1).f3) == 0) ((rd_T40 l0 x14_1).f0) ((rd_T40 l0 x14_1).f1) ((rd_T40 l0 x14_1).f2) ((rd_T40 l0 x14_1).f3)) else (hunk_Check.j2 kj6 a1 a2 l0 (l0.length : Int) x14_1 false ((rd_T40 l0 x14_1).f0) ((rd_T40 l0 x14_1).f1) ((rd_T40 l0 x14_1).f2) ((rd_T40 l0 x14_1).f3))))) = some r := by rw [if_neg (show ¬ (false = true) by decide)] at H; exact H
         clear H
         have H := H1
         clear H1
         have HC19 := Zm H
         clear H
         have hcz20_0 : wc.cell? ⟨gb175, 0, none⟩ = some (.int .i64 ((rd_T40 l0 x14_1).f0)) := (blk_cell BK175.out 0).trans rfl
         have hcz20_1 : wc.cell? ⟨gb175, 1, none⟩ = some (.int .i64 ((rd_T40 l0 x14_1).f1)) := (blk_cell BK175.out 1).trans rfl
         have hcz20_2 : wc.cell? ⟨gb175, 2, none⟩ = some (.int .i64 ((rd_T40 l0 x14_1).f2)) := (blk_cell BK175.out 2).trans rfl
         have hcz20_3 : wc.cell? ⟨gb175, 3, none⟩ = some (.int .i64 ((rd_T40 l0 x14_1).f3)) := (blk_cell BK175.out 3).trans rfl
         have hfz20_0 := blk_frozen BK175.out 0
         have hfz20_1 := blk_frozen BK175.out 1
         have hfz20_2 := blk_frozen BK175.out 2
         have hfz20_3 := blk_frozen BK175.out 3
         go_upto_if 44 with (fail)
         repeat (go_quiet (fail); go_upto_if 44 with (fail))
         go_cut [44] (fun v44 wc => ∃ (kq : Nat) (x44_18 : Bool), v44 = .bool x44_18 ∧ Aside0 (hunk_Check.j2 kq a1 a2 l0 (l0.length : Int) x14_1 x44_18 ((rd_T40 l0 x14_1).f0) ((rd_T40 l0 x14_1).f1) ((rd_T40 l0 x14_1).f2) ((rd_T40 l0 x14_1).f3) = some r) ∧ Aside0 (kq ≤ kj6) ∧ Aside0 (wc.heap[gb175]? = some (.cells #[.int .i64 ((rd_T40 l0 x14_1).f0), .int .i64 ((rd_T40 l0 x14_1).f1), .int .i64 ((rd_T40 l0 x14_1).f2), .int .i64 ((rd_T40 l0 x14_1).f3)] 40 (0, 0))) ∧ Aside0 (Below w.heap.size w wc))
         case first =>
          have H := HC19.out
          clear HC19
          by_cases c21 : ((rd_T40 l0 x14_1).f1) < 0
          ·rw [if_pos c21] at H
           have c21b0 : decide (((rd_T40 l0 x14_1).f1) < 0) = true := decide_eq_true c21
           clear c21
           (first | rw [c21b0] | (simp only [i64_w, i32_w]; rw [c21b0]) | skip)
           have H' := Zm H
           clear H
           go_wp2
           repeat (go_quiet (fail); try go_wp2)
           go_meet
           case rel => exact ⟨_, (decide (((rd_T40 l0 x14_1).f1) < 0)), (by first | rfl | (simp; done) | (simp [*]; done)), H', ⟨by have := HK1.out; have := HJ6.out; first | omega | exact Nat.le_refl _⟩, ⟨by (with_reducible repeat (first | refine blk_drewN ?_ _ | refine blk_drew ?_ | refine blk_alloc ?_ _)); exact BK175.out⟩, ⟨by repeat (first | (with_reducible first | exact HB.out | apply below_alloc | apply Zd | apply below_drew1 | refine below_set ?_ GE175.out) | exact HB.out)⟩⟩
          ·rw [if_neg c21] at H
           have c21b0 : decide (((rd_T40 l0 x14_1).f1) < 0) = false := decide_eq_false c21
           clear c21
           (first | rw [c21b0] | (simp only [i64_w, i32_w]; rw [c21b0]) | skip)
           by_cases c22 : ((rd_T40 l0 x14_1).f3) < 0
           ·rw [if_pos c22] at H
            have c22b0 : decide (((rd_T40 l0 x14_1).f3) < 0) = true := decide_eq_true c22
            clear c22
            have H' := Zm H
            clear H
            have hcz23_0 : wc.cell? ⟨gb175, 0, none⟩ = some (.int .i64 ((rd_T40 l0 x14_1).f0)) := (blk_cell BK175.out 0).trans rfl
            have hcz23_1 : wc.cell? ⟨gb175, 1, none⟩ = some (.int .i64 ((rd_T40 l0 x14_1).f1)) := (blk_cell BK175.out 1).trans rfl
            have hcz23_2 : wc.cell? ⟨gb175, 2, none⟩ = some (.int .i64 ((rd_T40 l0 x14_1).f2)) := (blk_cell BK175.out 2).trans rfl
            have hcz23_3 : wc.cell? ⟨gb175, 3, none⟩ = some (.int .i64 ((rd_T40 l0 x14_1).f3)) := (blk_cell BK175.out 3).trans rfl
            have hfz23_0 := blk_frozen BK175.out 0
            have hfz23_1 := blk_frozen BK175.out 1
            have hfz23_2 := blk_frozen BK175.out 2
            have hfz23_3 := blk_frozen BK175.out 3
            go_wp2
            repeat (go_quiet (fail); try go_wp2)
            go_meet
            case rel => exact ⟨_, (decide (((rd_T40 l0 x14_1).f3) < 0)), (by first | rfl | (simp; done) | (simp [*]; done)), H', ⟨by have := HK1.out; have := HJ6.out; first | omega | exact Nat.le_refl _⟩, ⟨by (with_reducible repeat (first | refine blk_drewN ?_ _ | refine blk_drew ?_ | refine blk_alloc ?_ _)); exact BK175.out⟩, ⟨by repeat (first | (with_reducible first | exact HB.out | apply below_alloc | apply Zd | apply below_drew1 | refine below_set ?_ GE175.out) | exact HB.out)⟩⟩
           ·rw [if_neg c22] at H
            have c22b0 : decide (((rd_T40 l0 x14_1).f3) < 0) = false := decide_eq_false c22
            clear c22
            by_cases c24 : ((rd_T40 l0 x14_1).f1) = 0
            ·rw [if_pos c24] at H
             have c24b0 : (((rd_T40 l0 x14_1).f1) == 0) = true := beq_iff_eq.mpr c24
             have c24b1 : (((rd_T40 l0 x14_1).f1) != 0) = false := bne_eq_false_iff_eq.mpr c24
             clear c24
             have H' := Zm H
             clear H
             have hcz25_0 : wc.cell? ⟨gb175, 0, none⟩ = some (.int .i64 ((rd_T40 l0 x14_1).f0)) := (blk_cell BK175.out 0).trans rfl
             have hcz25_1 : wc.cell? ⟨gb175, 1, none⟩ = some (.int .i64 ((rd_T40 l0 x14_1).f1)) := (blk_cell BK175.out 1).trans rfl
             have hcz25_2 : wc.cell? ⟨gb175, 2, none⟩ = some (.int .i64 ((rd_T40 l0 x14_1).f2)) := (blk_cell BK175.out 2).trans rfl
             have hcz25_3 : wc.cell? ⟨gb175, 3, none⟩ = some (.int .i64 ((rd_T40 l0 x14_1).f3)) := (blk_cell BK175.out 3).trans rfl
             have hfz25_0 := blk_frozen BK175.out 0
             have hfz25_1 := blk_frozen BK175.out 1
             have hfz25_2 := blk_frozen BK175.out 2
             have hfz25_3 := blk_frozen BK175.out 3
             go_wp2
             repeat (go_quiet (fail); try go_wp2)
             go_meet
             case rel => exact ⟨_, ((((rd_T40 l0 x14_1).f3) == 0)), (by first | rfl | (simp; done) | (simp [*]; done)), H', ⟨by have := HK1.out; have := HJ6.out; first | omega | exact Nat.le_refl _⟩, ⟨by (with_reducible repeat (first | refine blk_drewN ?_ _ | refine blk_drew ?_ | refine blk_alloc ?_ _)); exact BK175.out⟩, ⟨by repeat (first | (with_reducible first | exact HB.out | apply below_alloc | apply Zd | apply below_drew1 | refine below_set ?_ GE175.out) | exact HB.out)⟩⟩
            ·rw [if_neg c24] at H
             have c24b0 : (((rd_T40 l0 x14_1).f1) == 0) = false := beq_eq_false_iff_ne.mpr c24
             have c24b1 : (((rd_T40 l0 x14_1).f1) != 0) = true := bne_iff_ne.mpr c24
             have H' := Zm H
             clear H
             have hcz26_0 : wc.cell? ⟨gb175, 0, none⟩ = some (.int .i64 ((rd_T40 l0 x14_1).f0)) := (blk_cell BK175.out 0).trans rfl
             have hcz26_1 : wc.cell? ⟨gb175, 1, none⟩ = some (.int .i64 ((rd_T40 l0 x14_1).f1)) := (blk_cell BK175.out 1).trans rfl
             have hcz26_2 : wc.cell? ⟨gb175, 2, none⟩ = some (.int .i64 ((rd_T40 l0 x14_1).f2)) := (blk_cell BK175.out 2).trans rfl
             have hcz26_3 : wc.cell? ⟨gb175, 3, none⟩ = some (.int .i64 ((rd_T40 l0 x14_1).f3)) := (blk_cell BK175.out 3).trans rfl
             have hfz26_0 := blk_frozen BK175.out 0
             have hfz26_1 := blk_frozen BK175.out 1
             have hfz26_2 := blk_frozen BK175.out 2
             have hfz26_3 := blk_frozen BK175.out 3
             go_wp2
             repeat (go_quiet (fail); try go_wp2)
             go_meet
             case rel => exact ⟨_, (false), (by first | rfl | (simp; done) | (simp [*]; done)), H', ⟨by have := HK1.out; have := HJ6.out; first | omega | exact Nat.le_refl _⟩, ⟨by (with_reducible repeat (first | refine blk_drewN ?_ _ | refine blk_drew ?_ | refine blk_alloc ?_ _)); exact BK175.out⟩, ⟨by repeat (first | (with_reducible first | exact HB.out | apply below_alloc | apply Zd | apply below_drew1 | refine below_set ?_ GE175.out) | exact HB.out)⟩⟩
         case rest =>
          clear HC19
          try clear c1
          try clear p1
          try clear q1
          try clear hx1
          try clear c2
          try clear p2
          try clear c4
          try clear c4b0
          try clear c5
          try clear c5b0
          try clear c6
          try clear c6b0
          try clear p6
          try clear c10
          try clear c10b0
          try clear c11
          try clear c11b0
          try clear c13
          try clear c13b0
          try clear c13b1
          try clear c14
          try clear c14b0
          try clear c17
          try clear p17
          try clear q17
          try clear hx17
          try clear c18
          try clear c21
          try clear c21b0
          try clear c22
          try clear c22b0
          try clear c24
          try clear c24b0
          try clear c24b1
          try clear hcz12_0
          try clear hcz12_1
          try clear hcz12_2
          try clear hcz12_3
          try clear hcz15_0
          try clear hcz15_1
          try clear hcz15_2
          try clear hcz15_3
          try clear hcz16_0
          try clear hcz16_1
          try clear hcz16_2
          try clear hcz16_3
          try clear hcz17_0
          try clear hcz17_1
          try clear hcz17_2
          try clear hcz17_3
          try clear hcz20_0
          try clear hcz20_1
          try clear hcz20_2
          try clear hcz20_3
          try clear hcz23_0
          try clear hcz23_1
          try clear hcz23_2
          try clear hcz23_3
          try clear hcz25_0
          try clear hcz25_1
          try clear hcz25_2
          try clear hcz25_3
          try clear hcz26_0
          try clear hcz26_1
          try clear hcz26_2
          try clear hcz26_3
          try clear hcz9_0
          try clear hcz9_1
          try clear hcz9_2
          try clear hcz9_3
          try clear hfz12_0
          try clear hfz12_1
          try clear hfz12_2
          try clear hfz12_3
          try clear hfz15_0
          try clear hfz15_1
          try clear hfz15_2
          try clear hfz15_3
          try clear hfz16_0
          try clear hfz16_1
          try clear hfz16_2
          try clear hfz16_3
          try clear hfz17_0
          try clear hfz17_1
          try clear hfz17_2
          try clear hfz17_3
          try clear hfz20_0
          try clear hfz20_1
          try clear hfz20_2
          try clear hfz20_3
          try clear hfz23_0
          try clear hfz23_1
          try clear hfz23_2
          try clear hfz23_3
          try clear hfz25_0
          try clear hfz25_1
          try clear hfz25_2
          try clear hfz25_3
          try clear hfz26_0
          try clear hfz26_1
          try clear hfz26_2
          try clear hfz26_3
          try clear hfz9_0
          try clear hfz9_1
          try clear hfz9_2
          try clear hfz9_3
          try clear hx174_0
          try clear hx174_1
          try clear hx174_2
          try clear hx174_3
          try clear p1
          try clear p17
          try clear p174
          try clear p2
          try clear p6
          try clear q1
          try clear q17
          try clear q174
          obtain ⟨kq, x44_18, rfl, HA, HJ18, BK175, HB⟩ := hcut
          cases kq with
          | zero => exact absurd HA.out (by simp [hunk_Check.j2])
          | succ kj18 =>
           have H := HA.out
           clear HA
           simp only [hunk_Check.j2] at H
           by_cases c27 : x44_18 = true
           ·subst c27
            have H1 : (some 60) = some r := by rw [if_pos rfl] at H; exact H
            clear H
            have H := H1
            clear H1
            obtain rfl := Option.some.inj H
            go_wp2
            repeat (go_quiet (fail); try go_wp2)
            go_ret
            exact ⟨by first | rfl | (simp [errW_none, errW_some] <;> rfl) | (simp [*, errW_none, errW_some] <;> rfl), by repeat (first | (with_reducible first | exact HB.out | apply below_alloc | apply Zd | apply below_drew1 | refine below_set ?_ GE175.out) | exact HB.out)⟩
           ·replace c27 := Bool.eq_false_iff.mpr c27
            subst c27
            have H1 : (if ((rd_T40 l0 x14_1).f0) > a1 then (some 60) else (if ((rd_T40 l0 x14_1).f2) > a2 then (some 60) else (if ((rd_T40 l0 x14_1).f1) > (wrap64 (a1 - ((rd_T40 l0 x14_1).f0))) then (some 60) else (if ((rd_T40 l0 x14_1).f3) > (wrap64 (a2 - ((rd_T40 l0 x14_1).f2))) then (some 60) else (hunk_Check.l0 kj18 a1 a2 (wrap64 (((rd_T40 l0 x14_1).f0) + ((rd_T40 l0 x14_1).f1))) (wrap64 (((rd_T40 l0 x14_1).f2) + ((rd_T40 l0 x14_1).f3))) l0 (l0.length : Int) (wrap64 (x14_1 + 1))))))) = some r := by rw [if_neg (show ¬ (false = true) by decide)] at H; exact H
            clear H
            have H := H1
            clear H1
            by_cases c28 : ((rd_T40 l0 x14_1).f0) > a1
            ·rw [if_pos c28] at H
             have c28b0 : decide (a1 < ((rd_T40 l0 x14_1).f0)) = true := decide_eq_true c28
             clear c28
             obtain rfl := Option.some.inj H
             have hcz29_0 : wc.cell? ⟨gb175, 0, none⟩ = some (.int .i64 ((rd_T40 l0 x14_1).f0)) := (blk_cell BK175.out 0).trans rfl
             have hcz29_1 : wc.cell? ⟨gb175, 1, none⟩ = some (.int .i64 ((rd_T40 l0 x14_1).f1)) := (blk_cell BK175.out 1).trans rfl
             have hcz29_2 : wc.cell? ⟨gb175, 2, none⟩ = some (.int .i64 ((rd_T40 l0 x14_1).f2)) := (blk_cell BK175.out 2).trans rfl
             have hcz29_3 : wc.cell? ⟨gb175, 3, none⟩ = some (.int .i64 ((rd_T40 l0 x14_1).f3)) := (blk_cell BK175.out 3).trans rfl
             have hfz29_0 := blk_frozen BK175.out 0
             have hfz29_1 := blk_frozen BK175.out 1
             have hfz29_2 := blk_frozen BK175.out 2
             have hfz29_3 := blk_frozen BK175.out 3
             go_wp2
             repeat (go_quiet (fail); try go_wp2)
             go_ret
             exact ⟨by first | rfl | (simp [errW_none, errW_some] <;> rfl) | (simp [*, errW_none, errW_some] <;> rfl), by repeat (first | (with_reducible first | exact HB.out | apply below_alloc | apply Zd | apply below_drew1 | refine below_set ?_ GE175.out) | exact HB.out)⟩
            ·rw [if_neg c28] at H
             have c28b0 : decide (a1 < ((rd_T40 l0 x14_1).f0)) = false := decide_eq_false c28
             clear c28
             by_cases c30 : ((rd_T40 l0 x14_1).f2) > a2
             ·rw [if_pos c30] at H
              have c30b0 : decide (a2 < ((rd_T40 l0 x14_1).f2)) = true := decide_eq_true c30
              clear c30
              obtain rfl := Option.some.inj H
              have hcz31_0 : wc.cell? ⟨gb175, 0, none⟩ = some (.int .i64 ((rd_T40 l0 x14_1).f0)) := (blk_cell BK175.out 0).trans rfl
              have hcz31_1 : wc.cell? ⟨gb175, 1, none⟩ = some (.int .i64 ((rd_T40 l0 x14_1).f1)) := (blk_cell BK175.out 1).trans rfl
              have hcz31_2 : wc.cell? ⟨gb175, 2, none⟩ = some (.int .i64 ((rd_T40 l0 x14_1).f2)) := (blk_cell BK175.out 2).trans rfl
              have hcz31_3 : wc.cell? ⟨gb175, 3, none⟩ = some (.int .i64 ((rd_T40 l0 x14_1).f3)) := (blk_cell BK175.out 3).trans rfl
              have hfz31_0 := blk_frozen BK175.out 0
              have hfz31_1 := blk_frozen BK175.out 1
              have hfz31_2 := blk_frozen BK175.out 2
              have hfz31_3 := blk_frozen BK175.out 3
              go_wp2
              repeat (go_quiet (fail); try go_wp2)
              go_ret
              exact ⟨by first | rfl | (simp [errW_none, errW_some] <;> rfl) | (simp [*, errW_none, errW_some] <;> rfl), by repeat (first | (with_reducible first | exact HB.out | apply below_alloc | apply Zd | apply below_drew1 | refine below_set ?_ GE175.out) | exact HB.out)⟩
             ·rw [if_neg c30] at H
              have c30b0 : decide (a2 < ((rd_T40 l0 x14_1).f2)) = false := decide_eq_false c30
              clear c30
              by_cases c32 : ((rd_T40 l0 x14_1).f1) > (wrap64 (a1 - ((rd_T40 l0 x14_1).f0)))
              ·rw [if_pos c32] at H
               have c32b0 : decide ((wrap64 (a1 - ((rd_T40 l0 x14_1).f0))) < ((rd_T40 l0 x14_1).f1)) = true := decide_eq_true c32
               clear c32
               obtain rfl := Option.some.inj H
               have hcz33_0 : wc.cell? ⟨gb175, 0, none⟩ = some (.int .i64 ((rd_T40 l0 x14_1).f0)) := (blk_cell BK175.out 0).trans rfl
               have hcz33_1 : wc.cell? ⟨gb175, 1, none⟩ = some (.int .i64 ((rd_T40 l0 x14_1).f1)) := (blk_cell BK175.out 1).trans rfl
               have hcz33_2 : wc.cell? ⟨gb175, 2, none⟩ = some (.int .i64 ((rd_T40 l0 x14_1).f2)) := (blk_cell BK175.out 2).trans rfl
               have hcz33_3 : wc.cell? ⟨gb175, 3, none⟩ = some (.int .i64 ((rd_T40 l0 x14_1).f3)) := (blk_cell BK175.out 3).trans rfl
               have hfz33_0 := blk_frozen BK175.out 0
               have hfz33_1 := blk_frozen BK175.out 1
               have hfz33_2 := blk_frozen BK175.out 2
               have hfz33_3 := blk_frozen BK175.out 3
               go_wp2
               repeat (go_quiet (fail); try go_wp2)
               go_ret
               exact ⟨by first | rfl | (simp [errW_none, errW_some] <;> rfl) | (simp [*, errW_none, errW_some] <;> rfl), by repeat (first | (with_reducible first | exact HB.out | apply below_alloc | apply Zd | apply below_drew1 | refine below_set ?_ GE175.out) | exact HB.out)⟩
              ·rw [if_neg c32] at H
               have c32b0 : decide ((wrap64 (a1 - ((rd_T40 l0 x14_1).f0))) < ((rd_T40 l0 x14_1).f1)) = false := decide_eq_false c32
               clear c32
               by_cases c34 : ((rd_T40 l0 x14_1).f3) > (wrap64 (a2 - ((rd_T40 l0 x14_1).f2)))
               ·rw [if_pos c34] at H
                have c34b0 : decide ((wrap64 (a2 - ((rd_T40 l0 x14_1).f2))) < ((rd_T40 l0 x14_1).f3)) = true := decide_eq_true c34
                clear c34
                obtain rfl := Option.some.inj H
                have hcz35_0 : wc.cell? ⟨gb175, 0, none⟩ = some (.int .i64 ((rd_T40 l0 x14_1).f0)) := (blk_cell BK175.out 0).trans rfl
                have hcz35_1 : wc.cell? ⟨gb175, 1, none⟩ = some (.int .i64 ((rd_T40 l0 x14_1).f1)) := (blk_cell BK175.out 1).trans rfl
                have hcz35_2 : wc.cell? ⟨gb175, 2, none⟩ = some (.int .i64 ((rd_T40 l0 x14_1).f2)) := (blk_cell BK175.out 2).trans rfl
                have hcz35_3 : wc.cell? ⟨gb175, 3, none⟩ = some (.int .i64 ((rd_T40 l0 x14_1).f3)) := (blk_cell BK175.out 3).trans rfl
                have hfz35_0 := blk_frozen BK175.out 0
                have hfz35_1 := blk_frozen BK175.out 1
                have hfz35_2 := blk_frozen BK175.out 2
                have hfz35_3 := blk_frozen BK175.out 3
                go_wp2
                repeat (go_quiet (fail); try go_wp2)
                go_ret
                exact ⟨by first | rfl | (simp [errW_none, errW_some] <;> rfl) | (simp [*, errW_none, errW_some] <;> rfl), by repeat (first | (with_reducible first | exact HB.out | apply below_alloc | apply Zd | apply below_drew1 | refine below_set ?_ GE175.out) | exact HB.out)⟩
               ·rw [if_neg c34] at H
                have c34b0 : decide ((wrap64 (a2 - ((rd_T40 l0 x14_1).f2))) < ((rd_T40 l0 x14_1).f3)) = false := decide_eq_false c34
                clear c34
                have H' := Zm H
                clear H
                have hcz36_0 : wc.cell? ⟨gb175, 0, none⟩ = some (.int .i64 ((rd_T40 l0 x14_1).f0)) := (blk_cell BK175.out 0).trans rfl
                have hcz36_1 : wc.cell? ⟨gb175, 1, none⟩ = some (.int .i64 ((rd_T40 l0 x14_1).f1)) := (blk_cell BK175.out 1).trans rfl
                have hcz36_2 : wc.cell? ⟨gb175, 2, none⟩ = some (.int .i64 ((rd_T40 l0 x14_1).f2)) := (blk_cell BK175.out 2).trans rfl
                have hcz36_3 : wc.cell? ⟨gb175, 3, none⟩ = some (.int .i64 ((rd_T40 l0 x14_1).f3)) := (blk_cell BK175.out 3).trans rfl
                have hfz36_0 := blk_frozen BK175.out 0
                have hfz36_1 := blk_frozen BK175.out 1
                have hfz36_2 := blk_frozen BK175.out 2
                have hfz36_3 := blk_frozen BK175.out 3
                go_wp2
                repeat (go_quiet (fail); try go_wp2)
                go_roundg kj18
                case measure => have := HK1.out; have := HJ6.out; have := HJ18.out; omega
                case rel => exact ⟨(wrap64 (((rd_T40 l0 x14_1).f0) + ((rd_T40 l0 x14_1).f1))), (wrap64 (((rd_T40 l0 x14_1).f2) + ((rd_T40 l0 x14_1).f3))), (wrap64 (x14_1 + 1)), (by first | rfl | (simp; done) | (simp [*]; done)), (by first | rfl | (simp; done) | (simp [*]; done)), (by first | rfl | (simp; done) | (simp [*]; done)), H', ⟨by have := HK1.out; have := HJ6.out; have := HJ18.out; omega⟩, ⟨by repeat (first | (with_reducible first | exact HB.out | apply below_alloc | apply Zd | apply below_drew1 | refine below_set ?_ GE175.out) | exact HB.out)⟩⟩
     ·rw [if_neg c6] at H
      exact absurd H (by simp)
    ·rw [if_neg c5] at H
     exact absurd H (by simp)
   ·rw [if_neg c4] at H
    have c4b0 : decide (x14_1 < (l0.length : Int)) = false := decide_eq_false c4
    clear c4
    by_cases c37 : (wrap64 (a1 - x7_1)) = (wrap64 (a2 - x8_1))
    ·rw [if_pos c37] at H
     have c37b0 : ((wrap64 (a1 - x7_1)) == (wrap64 (a2 - x8_1))) = true := beq_iff_eq.mpr c37
     have c37b1 : ((wrap64 (a1 - x7_1)) != (wrap64 (a2 - x8_1))) = false := bne_eq_false_iff_eq.mpr c37
     clear c37
     by_cases c38 : a1 < x7_1
     ·rw [if_pos c38] at H
      have c38b0 : decide (a1 < x7_1) = true := decide_eq_true c38
      clear c38
      obtain rfl := Option.some.inj H
      go_wp2
      repeat (go_quiet (fail); try go_wp2)
      go_ret
      exact ⟨by first | rfl | (simp [errW_none, errW_some] <;> rfl) | (simp [*, errW_none, errW_some] <;> rfl), by repeat (first | (with_reducible first | exact HB.out | apply below_alloc | apply Zd | apply below_drew1) | exact HB.out)⟩
     ·rw [if_neg c38] at H
      have c38b0 : decide (a1 < x7_1) = false := decide_eq_false c38
      clear c38
      obtain rfl := Option.some.inj H
      go_wp2
      repeat (go_quiet (fail); try go_wp2)
      go_ret
      exact ⟨by first | rfl | (simp [errW_none, errW_some] <;> rfl) | (simp [*, errW_none, errW_some] <;> rfl), by repeat (first | (with_reducible first | exact HB.out | apply below_alloc | apply Zd | apply below_drew1) | exact HB.out)⟩
    ·rw [if_neg c37] at H
     have c37b0 : ((wrap64 (a1 - x7_1)) == (wrap64 (a2 - x8_1))) = false := beq_eq_false_iff_ne.mpr c37
     have c37b1 : ((wrap64 (a1 - x7_1)) != (wrap64 (a2 - x8_1))) = true := bne_iff_ne.mpr c37
     obtain rfl := Option.some.inj H
     go_wp2
     repeat (go_quiet (fail); try go_wp2)
     go_ret
     exact ⟨by first | rfl | (simp [errW_none, errW_some] <;> rfl) | (simp [*, errW_none, errW_some] <;> rfl), by repeat (first | (with_reducible first | exact HB.out | apply below_alloc | apply Zd | apply below_drew1) | exact HB.out)⟩
end Go.Proofs.Ytphghffdaceaoaa.PHunk
