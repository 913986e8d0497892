/- Laid by a program of this session out of the seat's translation. -/
import Derived.Test.YteafndooaokagaaPDiffx0
import Derived.Test.YteafndooaokagaaPDiffx7
import Derived.Test.YteafndooaokagaaPDiffx8
import Derived.Test.YteafndooaokagaaPDiffx9
import Derived.Test.YteafndooaokagaaPDiffx13
import Derived.Test.YteafndooaokagaaPDiffx14
namespace Go.Proofs.Yteafndooaokagaa.PDiff
open Go.RowKit Go.Proofs.YteafndooaokagaaW.PrintWords Go.Proofs.YteafndooaokagaaW.PrintLast Go.Proofs.YteafndooaokagaaW.PrintMore
attribute [local go_sem] max2_int min2_int max_two min_two max_three min_three max_four min_four   -- for this text's walks alone
set_option linter.unusedVariables false
set_option linter.unusedSimpArgs false
/-! ### r05_Numbers: function 32 -/
mutual
def r05_Numbers.l0 : Nat → List (List ByteArray) → List ByteArray → List (List Int) → Int → Option ((List (List Int)))
 | 0, _, _, _, _ => none
 | k + 1, x0, x3, x4, x5 => if x5 < (x0.length : Int) then (r05_Numbers.l1 k x0 x3 x4 x5 ([] : List Int) 0) else (some x4)
def r05_Numbers.l1 : Nat → List (List ByteArray) → List ByteArray → List (List Int) → Int → List Int → Int → Option ((List (List Int)))
 | 0, _, _, _, _, _, _ => none
 | k + 1, x0, x3, x4, x5, x6, x7 => if 0 ≤ x5 then (if x5 < (x0.length : Int) then (if x7 < ((rd_L9 x0 x5).length : Int) then (r05_Numbers.l2 k x0 x3 x4 x5 x6 x7 0) else (if x4.length < 5864062014805 then (r05_Numbers.l0 k x0 x3 (x4 ++ [x6]) (wrap64 (x5 + 1))) else (none))) else (none)) else (none)
def r05_Numbers.l2 : Nat → List (List ByteArray) → List ByteArray → List (List Int) → Int → List Int → Int → Int → Option ((List (List Int)))
 | 0, _, _, _, _, _, _, _ => none
 | k + 1, x0, x3, x4, x5, x6, x7, x8 => if x8 < (x3.length : Int) then (if 0 ≤ x8 then (if 0 ≤ x5 then (if x5 < (x0.length : Int) then (if 0 ≤ x7 then (if x7 < ((rd_L9 x0 x5).length : Int) then (if (rdOf ByteArray.empty x3 x8).toList = (rdOf ByteArray.empty (rd_L9 x0 x5) x7).toList then (if x8 = (x3.length : Int) then (if x3.length < 8796093022208 then (if x6.length < 17592186044416 then (r05_Numbers.l1 k x0 (x3 ++ [rdOf ByteArray.empty (rd_L9 x0 x5) x7]) x4 x5 (x6 ++ [x8]) (wrap64 (x7 + 1))) else (none)) else (none)) else (if x6.length < 17592186044416 then (r05_Numbers.l1 k x0 x3 x4 x5 (x6 ++ [x8]) (wrap64 (x7 + 1))) else (none))) else (r05_Numbers.l2 k x0 x3 x4 x5 x6 x7 (wrap64 (x8 + 1)))) else (none)) else (none)) else (none)) else (none)) else (none)) else (if x8 = (x3.length : Int) then (if 0 ≤ x5 then (if x5 < (x0.length : Int) then (if 0 ≤ x7 then (if x7 < ((rd_L9 x0 x5).length : Int) then (if x3.length < 8796093022208 then (if x6.length < 17592186044416 then (r05_Numbers.l1 k x0 (x3 ++ [rdOf ByteArray.empty (rd_L9 x0 x5) x7]) x4 x5 (x6 ++ [x8]) (wrap64 (x7 + 1))) else (none)) else (none)) else (none)) else (none)) else (none)) else (none)) else (if x6.length < 17592186044416 then (r05_Numbers.l1 k x0 x3 x4 x5 (x6 ++ [x8]) (wrap64 (x7 + 1))) else (none)))
end
def r05_Numbers.f (k : Nat) (l0 : List (List ByteArray)) : Option ((List (List Int))) := r05_Numbers.l0 k l0 ([] : List ByteArray) ([] : List (List Int)) 0
theorem r05_Numbers.mono_l : ∀ k, (∀ y0 y1 y2 y3, LeO (r05_Numbers.l0 k y0 y1 y2 y3) (r05_Numbers.l0 (k + 1) y0 y1 y2 y3)) ∧ (∀ y0 y1 y2 y3 y4 y5, LeO (r05_Numbers.l1 k y0 y1 y2 y3 y4 y5) (r05_Numbers.l1 (k + 1) y0 y1 y2 y3 y4 y5)) ∧ (∀ y0 y1 y2 y3 y4 y5 y6, LeO (r05_Numbers.l2 k y0 y1 y2 y3 y4 y5 y6) (r05_Numbers.l2 (k + 1) y0 y1 y2 y3 y4 y5 y6))
 | 0 => ⟨fun _ _ _ _ r h => by simp [r05_Numbers.l0] at h, fun _ _ _ _ _ _ r h => by simp [r05_Numbers.l1] at h, fun _ _ _ _ _ _ _ r h => by simp [r05_Numbers.l2] at h⟩
 | k + 1 => by
  obtain ⟨ih0, ih1, ih2⟩ := r05_Numbers.mono_l k
  refine ⟨?_, ?_, ?_⟩
  ·intro y0 y1 y2 y3
   unfold r05_Numbers.l0
   repeat' first
   | (with_reducible exact ih0 _ _ _ _)
   | (with_reducible exact ih1 _ _ _ _ _ _)
   | (with_reducible exact ih2 _ _ _ _ _ _ _)
   | (with_reducible exact LeO.refl _)
   | (with_reducible exact LeO.none _)
   | (with_reducible refine LeO.ite ?_ ?_)
   | (with_reducible refine LeO.bind ?_ (fun _ => ?_))
   | exact ih0 _ _ _ _
   | exact ih1 _ _ _ _ _ _
   | exact ih2 _ _ _ _ _ _ _
   | exact LeO.none _
   | refine LeO.ite ?_ ?_
   | refine LeO.bind ?_ (fun _ => ?_)
  ·intro y0 y1 y2 y3 y4 y5
   unfold r05_Numbers.l1
   repeat' first
   | (with_reducible exact ih0 _ _ _ _)
   | (with_reducible exact ih1 _ _ _ _ _ _)
   | (with_reducible exact ih2 _ _ _ _ _ _ _)
   | (with_reducible exact LeO.refl _)
   | (with_reducible exact LeO.none _)
   | (with_reducible refine LeO.ite ?_ ?_)
   | (with_reducible refine LeO.bind ?_ (fun _ => ?_))
   | exact ih0 _ _ _ _
   | exact ih1 _ _ _ _ _ _
   | exact ih2 _ _ _ _ _ _ _
   | exact LeO.none _
   | refine LeO.ite ?_ ?_
   | refine LeO.bind ?_ (fun _ => ?_)
  ·intro y0 y1 y2 y3 y4 y5 y6
   unfold r05_Numbers.l2
   repeat' first
   | (with_reducible exact ih0 _ _ _ _)
   | (with_reducible exact ih1 _ _ _ _ _ _)
   | (with_reducible exact ih2 _ _ _ _ _ _ _)
   | (with_reducible exact LeO.refl _)
   | (with_reducible exact LeO.none _)
   | (with_reducible refine LeO.ite ?_ ?_)
   | (with_reducible refine LeO.bind ?_ (fun _ => ?_))
   | exact ih0 _ _ _ _
   | exact ih1 _ _ _ _ _ _
   | exact ih2 _ _ _ _ _ _ _
   | exact LeO.none _
   | refine LeO.ite ?_ ?_
   | refine LeO.bind ?_ (fun _ => ?_)
theorem r05_Numbers.mono : ∀ a0 k, LeO (r05_Numbers.f k a0) (r05_Numbers.f (k + 1) a0) := by
 intro a0 k
 obtain ⟨ih0, ih1, ih2⟩ := r05_Numbers.mono_l k
 unfold r05_Numbers.f
 repeat' first
   | (with_reducible exact ih0 _ _ _ _)
   | (with_reducible exact ih1 _ _ _ _ _ _)
   | (with_reducible exact ih2 _ _ _ _ _ _ _)
   | (with_reducible exact LeO.refl _)
   | (with_reducible exact LeO.none _)
   | (with_reducible refine LeO.ite ?_ ?_)
   | (with_reducible refine LeO.bind ?_ (fun _ => ?_))
   | exact ih0 _ _ _ _
   | exact ih1 _ _ _ _ _ _
   | exact ih2 _ _ _ _ _ _ _
   | exact LeO.none _
   | refine LeO.ite ?_ ?_
   | refine LeO.bind ?_ (fun _ => ?_)
set_option maxHeartbeats 8000000 in
set_option maxRecDepth 100000 in
theorem r05_Numbers.calls (k : Nat) (A0 : Option Addr) (c0 : Nat) (l0 : List (List ByteArray)) (r : List (List Int)) (w : World) (hr0 : Kd.C (Kd.slice 9 Kd.string) w A0 l0.length l0) (hc0 : l0.length ≤ c0) (h : r05_Numbers.f k l0 = some r) :
  Calls Try.prog 32 #[.slice A0 l0.length c0] w fun e w' => ∃ v0_ : Value, e = .returned (v0_) ∧ Kd.S (Kd.slice 3 (Kd.int .i64)) 22 w' w.heap.size (fun _ => True) v0_ r ∧ Below w.heap.size w w' := by
 have HR0 := Zm hr0
 have HC0 := Zm hc0
 clear hr0 hc0
 have HB := Zm (Below.refl w.heap.size w)
 have H : (r05_Numbers.l0 k l0 ([] : List ByteArray) ([] : List (List Int)) 0) = some r := h
 clear h
 have H' := Zm H
 clear H
 go_enter Try.func32, Try.ntmps32
 go_wp2
 repeat (go_quiet (fail); try go_wp2)
 go_loopg [3, 4, 5] k (fun kq v3 v4 v5 w' => ∃ (x3_1 : List ByteArray) (x4_1 : List (List Int)) (x5_1 : Int), v5 = .int .i64 x5_1 ∧ Aside0 (r05_Numbers.l0 kq l0 x3_1 x4_1 x5_1 = some r) ∧ Aside0 (kq ≤ k) ∧ Aside0 (Kd.R Kd.string 9 w' w.heap.size (fun _ => True) v3 x3_1) ∧ Aside0 (Kd.S (Kd.slice 3 (Kd.int .i64)) 22 w' w.heap.size (fun _ => True) v4 x4_1) ∧ Aside0 (Below w.heap.size w w'))
 case atStart => exact ⟨(([] : List ByteArray)), (([] : List (List Int))), (0), (by first | rfl | (simp; done) | (simp [*]; done)), H', ⟨Nat.le_refl _⟩, ⟨by first | exact Kd.R_nil _ _ _ _ _ | exact Kd.N_nil _ _ _ _ _ | exact Kd.V_nil _ _ _ _ _ | exact Kd.Q_nil _ _ _ _ _ | exact Kd.S_nil _ _ _ _ _⟩, ⟨by first | exact Kd.S_nil _ _ _ _ _ | exact Kd.N_nil _ _ _ _ _ | exact Kd.V_nil _ _ _ _ _ | exact Kd.Q_nil _ _ _ _ _ | exact Kd.R_nil _ _ _ _ _⟩, ⟨by repeat (first | (with_reducible first | exact HB.out | apply below_alloc | apply Zd | apply below_drew1) | exact HB.out)⟩⟩
 case round =>
  clear H'
  obtain ⟨x3_1, x4_1, x5_1, rfl, HA, HK1, HO_3, HO_4, HB⟩ := hrel
  cases gk with
  | zero => exact absurd HA.out (by simp [r05_Numbers.l0])
  | succ k1 =>
   have H := HA.out
   clear HA
   simp only [r05_Numbers.l0] at H
   by_cases c2 : x5_1 < (l0.length : Int)
   ·rw [if_pos c2] at H
    have c2b0 : decide (x5_1 < (l0.length : Int)) = true := decide_eq_true c2
    clear c2
    have H' := Zm H
    clear H
    go_wp2
    repeat (go_quiet (fail); try go_wp2)
    go_loopg [3, 6, 7] k1 (fun kq v3 v6 v7 w' => ∃ (x3_2 : List ByteArray) (x6_2 : List Int) (x7_2 : Int), v7 = .int .i64 x7_2 ∧ Aside0 (r05_Numbers.l1 kq l0 x3_2 x4_1 x5_1 x6_2 x7_2 = some r) ∧ Aside0 (kq ≤ k1) ∧ Aside0 (Kd.R Kd.string 9 w' w.heap.size (fun _ => True) v3 x3_2) ∧ Aside0 (Kd.S (Kd.slice 3 (Kd.int .i64)) 22 w' w.heap.size (fun k_ => some k_ ≠ (v6 : Value).ownBlock) u4 x4_1) ∧ Aside0 (Kd.R (Kd.int .i64) 3 w' w.heap.size (fun _ => True) v6 x6_2) ∧ Aside0 (Below w.heap.size w w'))
    case atStart => exact ⟨(x3_1), (([] : List Int)), (0), (by first | rfl | (simp; done) | (simp [*]; done)), H', ⟨Nat.le_refl _⟩, ⟨by (with_reducible repeat (first | apply Kd.R_alloc | apply Kd.R_drewN | apply Kd.R_drew)); first | exact HO_3.out | exact Kd.R_mono HO_3.out (fun _ _ => trivial)⟩, ⟨by (with_reducible repeat (first | apply Kd.S_alloc | apply Kd.S_drewN | apply Kd.S_drew)); exact Kd.S_mono HO_4.out (fun _ hk => (by simp [Value.ownBlock]))⟩, ⟨by first | exact Kd.R_nil _ _ _ _ _ | exact Kd.N_nil _ _ _ _ _ | exact Kd.V_nil _ _ _ _ _ | exact Kd.Q_nil _ _ _ _ _ | exact Kd.S_nil _ _ _ _ _⟩, ⟨by repeat (first | (with_reducible first | exact HB.out | apply below_alloc | apply Zd | apply below_drew1) | exact HB.out)⟩⟩
    case round =>
     clear H'
     try clear c2
     try clear c2b0
     try clear p2
     obtain ⟨x3_2, x6_2, x7_2, rfl, HA, HK2, HO_3, HO_4, HO_6, HB⟩ := hrel
     cases gk with
     | zero => exact absurd HA.out (by simp [r05_Numbers.l1])
     | succ k2 =>
      have H := HA.out
      clear HA
      simp only [r05_Numbers.l1] at H
      by_cases c3 : 0 ≤ x5_1
      ·rw [if_pos c3] at H
       have c3b0 : decide (0 ≤ x5_1) = true := decide_eq_true c3
       clear c3
       by_cases c4 : x5_1 < (l0.length : Int)
       ·rw [if_pos c4] at H
        have c4b0 : decide (x5_1 < (l0.length : Int)) = true := decide_eq_true c4
        clear c4
        by_cases c5 : x7_2 < ((rd_L9 l0 x5_1).length : Int)
        ·rw [if_pos c5] at H
         have c5b0 : decide (x7_2 < ((rd_L9 l0 x5_1).length : Int)) = true := decide_eq_true c5
         clear c5
         have H' := Zm H
         clear H
         have p348 : 0 ≤ (x5_1 : Int) := Zo (by first | (with_reducible assumption) | assumption)
         have q348 : x5_1 < (l0.length : Int) := Zo (by first | (with_reducible assumption) | assumption)
         obtain ⟨ad348, A348_0, c348_0, e348, hx348_0, hl348_0, hi348_0⟩ := at_L9 HR0.out x5_1 p348 q348
         cases e348
         replace hx348_0 := (HB.out.cell (World.block_lt_of_cell? w _ hx348_0)).trans hx348_0
         have HR348_0 := Zm hi348_0
         have HC348_0 := Zm hl348_0
         clear hi348_0 hl348_0
         replace p348 := eq_true p348
         replace q348 := eq_true q348
         go_wp2
         repeat (go_quiet (fail); try go_wp2)
         go_loopg [8] k2 (fun kq v8 w' => ∃ (x8_3 : Int), v8 = .int .i64 x8_3 ∧ Aside0 (r05_Numbers.l2 kq l0 x3_2 x4_1 x5_1 x6_2 x7_2 x8_3 = some r) ∧ Aside0 (kq ≤ k2) ∧ Aside0 (Kd.R Kd.string 9 w' w.heap.size (fun _ => True) u3 x3_2) ∧ Aside0 (Kd.S (Kd.slice 3 (Kd.int .i64)) 22 w' w.heap.size (fun k_ => some k_ ≠ (u6 : Value).ownBlock) u4 x4_1) ∧ Aside0 (Kd.R (Kd.int .i64) 3 w' w.heap.size (fun _ => True) u6 x6_2) ∧ Aside0 (Below w.heap.size w w'))
         case atStart => exact ⟨(0), (by first | rfl | (simp; done) | (simp [*]; done)), H', ⟨Nat.le_refl _⟩, ⟨by (with_reducible repeat (first | apply Kd.R_alloc | apply Kd.R_drewN | apply Kd.R_drew)); first | exact HO_3.out | exact Kd.R_mono HO_3.out (fun _ _ => trivial)⟩, ⟨by (with_reducible repeat (first | apply Kd.S_alloc | apply Kd.S_drewN | apply Kd.S_drew)); exact HO_4.out⟩, ⟨by (with_reducible repeat (first | apply Kd.R_alloc | apply Kd.R_drewN | apply Kd.R_drew)); first | exact HO_6.out | exact Kd.R_mono HO_6.out (fun _ _ => trivial)⟩, ⟨by repeat (first | (with_reducible first | exact HB.out | apply below_alloc | apply Zd | apply below_drew1) | exact HB.out)⟩⟩
         case round =>
          clear H'
          try clear c2
          try clear c2b0
          try clear p2
          try clear c3
          try clear c3b0
          try clear p3
          try clear q3
          try clear hx3
          try clear c4
          try clear c4b0
          try clear c5
          try clear c5b0
          try clear hx348_0
          try clear p2
          try clear p348
          try clear q348
          obtain ⟨x8_3, rfl, HA, HK3, HO_3, HO_4, HO_6, HB⟩ := hrel
          cases gk with
          | zero => exact absurd HA.out (by simp [r05_Numbers.l2])
          | succ k3 =>
           have H := HA.out
           clear HA
           simp only [r05_Numbers.l2] at H
           by_cases c6 : x8_3 < (x3_2.length : Int)
           ·rw [if_pos c6] at H
            have c6b0 : decide (x8_3 < (x3_2.length : Int)) = true := decide_eq_true c6
            clear c6
            by_cases c7 : 0 ≤ x8_3
            ·rw [if_pos c7] at H
             have c7b0 : decide (0 ≤ x8_3) = true := decide_eq_true c7
             clear c7
             by_cases c8 : 0 ≤ x5_1
             ·rw [if_pos c8] at H
              have c8b0 : decide (0 ≤ x5_1) = true := decide_eq_true c8
              clear c8
              by_cases c9 : x5_1 < (l0.length : Int)
              ·rw [if_pos c9] at H
               have c9b0 : decide (x5_1 < (l0.length : Int)) = true := decide_eq_true c9
               clear c9
               by_cases c10 : 0 ≤ x7_2
               ·rw [if_pos c10] at H
                have c10b0 : decide (0 ≤ x7_2) = true := decide_eq_true c10
                clear c10
                by_cases c11 : x7_2 < ((rd_L9 l0 x5_1).length : Int)
                ·rw [if_pos c11] at H
                 have c11b0 : decide (x7_2 < ((rd_L9 l0 x5_1).length : Int)) = true := decide_eq_true c11
                 clear c11
                 by_cases c12 : (rdOf ByteArray.empty x3_2 x8_3).toList = (rdOf ByteArray.empty (rd_L9 l0 x5_1) x7_2).toList
                 ·rw [if_pos c12] at H
                  have c12b0 : ((rdOf ByteArray.empty x3_2 x8_3).toList == (rdOf ByteArray.empty (rd_L9 l0 x5_1) x7_2).toList) = true := beq_iff_eq.mpr c12
                  have c12b1 : ((rdOf ByteArray.empty x3_2 x8_3).toList != (rdOf ByteArray.empty (rd_L9 l0 x5_1) x7_2).toList) = false := bne_eq_false_iff_eq.mpr c12
                  clear c12
                  by_cases c13 : x8_3 = (x3_2.length : Int)
                  ·rw [if_pos c13] at H
                   have c13b0 : (x8_3 == (x3_2.length : Int)) = true := beq_iff_eq.mpr c13
                   have c13b1 : (x8_3 != (x3_2.length : Int)) = false := bne_eq_false_iff_eq.mpr c13
                   clear c13
                   by_cases c14 : x3_2.length < 8796093022208
                   ·rw [if_pos c14] at H
                    have LMc14 := Zm c14
                    clear c14
                    obtain ⟨y357, hy357⟩ : ∃ y_ : List ByteArray, y_ = (x3_2 ++ [rdOf ByteArray.empty (rd_L9 l0 x5_1) x7_2]) := ⟨_, rfl⟩
                    replace H : (if x6_2.length < 17592186044416 then (r05_Numbers.l1 k3 l0 y357 x4_1 x5_1 (x6_2 ++ [x8_3]) (wrap64 (x7_2 + 1))) else (none)) = some r := by first | (rw [hy357]; with_reducible exact H) | (have H2_ := (Option.bind_some _ _).symm.trans H; rw [hy357]; with_reducible exact H2_) | (have H2_ := (Option.bind_some _ _).symm.trans H; with_reducible exact H2_) | with_reducible exact H | (rw [hy357]; exact H) | exact H
                    have Ny357 := Zm hy357
                    clear hy357
                    by_cases c15 : x6_2.length < 17592186044416
                    ·rw [if_pos c15] at H
                     have LMc15 := Zm c15
                     clear c15
                     obtain ⟨y360, hy360⟩ : ∃ y_ : List Int, y_ = (x6_2 ++ [x8_3]) := ⟨_, rfl⟩
                     replace H : (r05_Numbers.l1 k3 l0 y357 x4_1 x5_1 y360 (wrap64 (x7_2 + 1))) = some r := by first | (rw [hy360]; with_reducible exact H) | (have H2_ := (Option.bind_some _ _).symm.trans H; rw [hy360]; with_reducible exact H2_) | (have H2_ := (Option.bind_some _ _).symm.trans H; with_reducible exact H2_) | with_reducible exact H | (rw [hy360]; exact H) | exact H
                     have Ny360 := Zm hy360
                     clear hy360
                     have H' := Zm H
                     clear H
                     obtain ⟨Ao16, co16, eo16⟩ := Kd.R_slice HO_3.out
                     subst eo16
                     have p352 : 0 ≤ (x8_3 : Int) := Zo (by first | (with_reducible assumption) | assumption)
                     have q352 : x8_3 < (x3_2.length : Int) := Zo (by first | (with_reducible assumption) | assumption)
                     obtain ⟨ad352, e352, hx352_0⟩ := Kd.at_string (Kd.R_reads' HO_3.out).2.2 x8_3 p352 q352
                     cases e352
                     replace p352 := eq_true p352
                     replace q352 := eq_true q352
                     have p353 : 0 ≤ (x5_1 : Int) := Zo (by first | (with_reducible assumption) | assumption)
                     have q353 : x5_1 < (l0.length : Int) := Zo (by first | (with_reducible assumption) | assumption)
                     obtain ⟨ad353, A353_0, c353_0, e353, hx353_0, hl353_0, hi353_0⟩ := at_L9 HR0.out x5_1 p353 q353
                     obtain rfl : ad348 = ad353 := (by injection e353)
                     replace hx353_0 := (HB.out.cell (World.block_lt_of_cell? w _ hx353_0)).trans hx353_0
                     have HR353_0 := Zm hi353_0
                     have HC353_0 := Zm hl353_0
                     clear hi353_0 hl353_0
                     replace p353 := eq_true p353
                     replace q353 := eq_true q353
                     have p354 : 0 ≤ (x7_2 : Int) := Zo (by first | (with_reducible assumption) | assumption)
                     have q354 : x7_2 < ((rd_L9 l0 x5_1).length : Int) := Zo (by first | (with_reducible assumption) | assumption)
                     obtain ⟨ad354, e354, hx354_0⟩ := Kd.at_string HR353_0.out x7_2 p354 q354
                     cases e354
                     replace hx354_0 := (HB.out.cell (World.block_lt_of_cell? w _ hx354_0)).trans hx354_0
                     replace p354 := eq_true p354
                     replace q354 := eq_true q354
                     have p355 : 0 ≤ (x5_1 : Int) := Zo (by first | (with_reducible assumption) | assumption)
                     have q355 : x5_1 < (l0.length : Int) := Zo (by first | (with_reducible assumption) | assumption)
                     obtain ⟨ad355, A355_0, c355_0, e355, hx355_0, hl355_0, hi355_0⟩ := at_L9 HR0.out x5_1 p355 q355
                     obtain rfl : ad348 = ad355 := (by injection e355)
                     replace hx355_0 := (HB.out.cell (World.block_lt_of_cell? w _ hx355_0)).trans hx355_0
                     have HR355_0 := Zm hi355_0
                     have HC355_0 := Zm hl355_0
                     clear hi355_0 hl355_0
                     replace p355 := eq_true p355
                     replace q355 := eq_true q355
                     have ea_ := Option.some.inj (hx353_0.symm.trans hx355_0)
                     injection ea_ with ea_ en_ ec_
                     subst ea_
                     subst ec_
                     clear en_
                     have p356 : 0 ≤ (x7_2 : Int) := Zo (by first | (with_reducible assumption) | assumption)
                     have q356 : x7_2 < ((rd_L9 l0 x5_1).length : Int) := Zo (by first | (with_reducible assumption) | assumption)
                     obtain ⟨ad356, e356, hx356_0⟩ := Kd.at_string HR355_0.out x7_2 p356 q356
                     cases e356
                     replace hx356_0 := (HB.out.cell (World.block_lt_of_cell? w _ hx356_0)).trans hx356_0
                     replace p356 := eq_true p356
                     replace q356 := eq_true q356
                     go_wp2_with (first | ((with_reducible refine gate_builtin (b := .append) (xs := #[.tmp 48, .tmp 56]) rfl ?_); at_builtin; refine Kd.R_append Kd.string (w0 := w) w.heap.size rfl (.tmp 48) (.tmp 56) 32 9 (.string ⟨#[]⟩) 16 rfl Try.underlying32 info9 rfl (by decide) (by omega) (.slice (some ad352) x3_2.length co16) x3_2 (rdOf ByteArray.empty (rd_L9 l0 x5_1) x7_2) [.string (rdOf ByteArray.empty (rd_L9 l0 x5_1) x7_2)] (fun _ => True) (fun _ => False) rfl rfl ?aP (fun _ hk => hk.elim) ?aF ?aO ?aB ?aS ?aL ?_; (case aP => exact rfl); (case aB => exact (by repeat (first | (with_reducible first | exact HB.out | apply below_alloc | apply Zd | apply below_drew1) | exact HB.out))); (case aF => exact (fun _ _ => trivial)); (case aO => exact (by (with_reducible repeat (first | apply Kd.R_alloc | apply Kd.R_drewN | apply Kd.R_drew)); exact HO_3.out)); (case aS => exact (below_size (by repeat (first | (with_reducible first | exact HB.out | apply below_alloc | apply Zd | apply below_drew1) | exact HB.out)))); (case aL => have := LMc14.out; omega); intro v358 w17 ho hb hg hat; rw [← Ny357.out] at ho; have n0_ := Zm (Kd.S_over' (by (with_reducible repeat (first | apply Kd.S_alloc | apply Kd.S_drewN | apply Kd.S_drew)); exact HO_4.out) (Kd.R_typed (by (with_reducible repeat (first | apply Kd.R_alloc | apply Kd.R_drewN | apply Kd.R_drew)); exact HO_3.out)) (by decide) hg); have n1_ := Zm (Kd.R_over' (by (with_reducible repeat (first | apply Kd.R_alloc | apply Kd.R_drewN | apply Kd.R_drew)); exact HO_6.out) (Kd.R_typed (by (with_reducible repeat (first | apply Kd.R_alloc | apply Kd.R_drewN | apply Kd.R_drew)); exact HO_3.out)) (by decide) hg); have n2_ := Zm (hb); have n3_ := Zm (ho); clear HO_4; clear HO_6; clear HB; clear HO_3; have HO_4 := n0_; have HO_6 := n1_; have HB := n2_; have HO359 := n3_; clear n0_ n1_ n2_ n3_; clear ho hb hg hat) | ((with_reducible refine gate_builtin (b := .append) (xs := #[.tmp 58, .tmp 60]) rfl ?_); at_builtin; refine Kd.R_append (Kd.int .i64) (w0 := w) w.heap.size rfl (.tmp 58) (.tmp 60) 22 3 (.int .i64 0) 8 rfl Try.underlying22 info3 rfl (by decide) (by omega) u6 x6_2 x8_3 [.int .i64 x8_3] (fun _ => True) (fun _ => False) rfl rfl ?aP (fun _ hk => hk.elim) ?aF ?aO ?aB ?aS ?aL ?_; (case aP => exact rfl); (case aB => exact (by repeat (first | (with_reducible first | exact HB.out | apply below_alloc | apply Zd | apply below_drew1) | exact HB.out))); (case aF => exact (fun _ _ => trivial)); (case aO => exact (by (with_reducible repeat (first | apply Kd.R_alloc | apply Kd.R_drewN | apply Kd.R_drew)); exact HO_6.out)); (case aS => exact (below_size (by repeat (first | (with_reducible first | exact HB.out | apply below_alloc | apply Zd | apply below_drew1) | exact HB.out)))); (case aL => have := LMc15.out; omega); intro v361 w18 ho hb hg hat; rw [← Ny360.out] at ho; have n0_ := Zm (Kd.S_after (ok := (fun _ => True)) (by (with_reducible repeat (first | apply Kd.S_alloc | apply Kd.S_drewN | apply Kd.S_drew)); exact Kd.S_mono HO_4.out (fun _ hk => ⟨trivial, hk⟩)) hg hat); have n1_ := Zm (Kd.R_over' (by (with_reducible repeat (first | apply Kd.R_alloc | apply Kd.R_drewN | apply Kd.R_drew)); exact HO359.out) (Kd.R_typed (by (with_reducible repeat (first | apply Kd.R_alloc | apply Kd.R_drewN | apply Kd.R_drew)); exact HO_6.out)) (by decide) hg); have n2_ := Zm (hb); have n3_ := Zm (ho); clear HO_4; clear HO359; clear HB; clear HO_6; have HO_4 := n0_; have HO359 := n1_; have HB := n2_; have HO362 := n3_; clear n0_ n1_ n2_ n3_; clear ho hb hg hat))
                     repeat (go_quiet (first | ((with_reducible refine gate_builtin (b := .append) (xs := #[.tmp 48, .tmp 56]) rfl ?_); at_builtin; refine Kd.R_append Kd.string (w0 := w) w.heap.size rfl (.tmp 48) (.tmp 56) 32 9 (.string ⟨#[]⟩) 16 rfl Try.underlying32 info9 rfl (by decide) (by omega) (.slice (some ad352) x3_2.length co16) x3_2 (rdOf ByteArray.empty (rd_L9 l0 x5_1) x7_2) [.string (rdOf ByteArray.empty (rd_L9 l0 x5_1) x7_2)] (fun _ => True) (fun _ => False) rfl rfl ?aP (fun _ hk => hk.elim) ?aF ?aO ?aB ?aS ?aL ?_; (case aP => exact rfl); (case aB => exact (by repeat (first | (with_reducible first | exact HB.out | apply below_alloc | apply Zd | apply below_drew1) | exact HB.out))); (case aF => exact (fun _ _ => trivial)); (case aO => exact (by (with_reducible repeat (first | apply Kd.R_alloc | apply Kd.R_drewN | apply Kd.R_drew)); exact HO_3.out)); (case aS => exact (below_size (by repeat (first | (with_reducible first | exact HB.out | apply below_alloc | apply Zd | apply below_drew1) | exact HB.out)))); (case aL => have := LMc14.out; omega); intro v358 w17 ho hb hg hat; rw [← Ny357.out] at ho; have n0_ := Zm (Kd.S_over' (by (with_reducible repeat (first | apply Kd.S_alloc | apply Kd.S_drewN | apply Kd.S_drew)); exact HO_4.out) (Kd.R_typed (by (with_reducible repeat (first | apply Kd.R_alloc | apply Kd.R_drewN | apply Kd.R_drew)); exact HO_3.out)) (by decide) hg); have n1_ := Zm (Kd.R_over' (by (with_reducible repeat (first | apply Kd.R_alloc | apply Kd.R_drewN | apply Kd.R_drew)); exact HO_6.out) (Kd.R_typed (by (with_reducible repeat (first | apply Kd.R_alloc | apply Kd.R_drewN | apply Kd.R_drew)); exact HO_3.out)) (by decide) hg); have n2_ := Zm (hb); have n3_ := Zm (ho); clear HO_4; clear HO_6; clear HB; clear HO_3; have HO_4 := n0_; have HO_6 := n1_; have HB := n2_; have HO359 := n3_; clear n0_ n1_ n2_ n3_; clear ho hb hg hat) | ((with_reducible refine gate_builtin (b := .append) (xs := #[.tmp 58, .tmp 60]) rfl ?_); at_builtin; refine Kd.R_append (Kd.int .i64) (w0 := w) w.heap.size rfl (.tmp 58) (.tmp 60) 22 3 (.int .i64 0) 8 rfl Try.underlying22 info3 rfl (by decide) (by omega) u6 x6_2 x8_3 [.int .i64 x8_3] (fun _ => True) (fun _ => False) rfl rfl ?aP (fun _ hk => hk.elim) ?aF ?aO ?aB ?aS ?aL ?_; (case aP => exact rfl); (case aB => exact (by repeat (first | (with_reducible first | exact HB.out | apply below_alloc | apply Zd | apply below_drew1) | exact HB.out))); (case aF => exact (fun _ _ => trivial)); (case aO => exact (by (with_reducible repeat (first | apply Kd.R_alloc | apply Kd.R_drewN | apply Kd.R_drew)); exact HO_6.out)); (case aS => exact (below_size (by repeat (first | (with_reducible first | exact HB.out | apply below_alloc | apply Zd | apply below_drew1) | exact HB.out)))); (case aL => have := LMc15.out; omega); intro v361 w18 ho hb hg hat; rw [← Ny360.out] at ho; have n0_ := Zm (Kd.S_after (ok := (fun _ => True)) (by (with_reducible repeat (first | apply Kd.S_alloc | apply Kd.S_drewN | apply Kd.S_drew)); exact Kd.S_mono HO_4.out (fun _ hk => ⟨trivial, hk⟩)) hg hat); have n1_ := Zm (Kd.R_over' (by (with_reducible repeat (first | apply Kd.R_alloc | apply Kd.R_drewN | apply Kd.R_drew)); exact HO359.out) (Kd.R_typed (by (with_reducible repeat (first | apply Kd.R_alloc | apply Kd.R_drewN | apply Kd.R_drew)); exact HO_6.out)) (by decide) hg); have n2_ := Zm (hb); have n3_ := Zm (ho); clear HO_4; clear HO359; clear HB; clear HO_6; have HO_4 := n0_; have HO359 := n1_; have HB := n2_; have HO362 := n3_; clear n0_ n1_ n2_ n3_; clear ho hb hg hat)); try go_wp2_with (first | ((with_reducible refine gate_builtin (b := .append) (xs := #[.tmp 48, .tmp 56]) rfl ?_); at_builtin; refine Kd.R_append Kd.string (w0 := w) w.heap.size rfl (.tmp 48) (.tmp 56) 32 9 (.string ⟨#[]⟩) 16 rfl Try.underlying32 info9 rfl (by decide) (by omega) (.slice (some ad352) x3_2.length co16) x3_2 (rdOf ByteArray.empty (rd_L9 l0 x5_1) x7_2) [.string (rdOf ByteArray.empty (rd_L9 l0 x5_1) x7_2)] (fun _ => True) (fun _ => False) rfl rfl ?aP (fun _ hk => hk.elim) ?aF ?aO ?aB ?aS ?aL ?_; (case aP => exact rfl); (case aB => exact (by repeat (first | (with_reducible first | exact HB.out | apply below_alloc | apply Zd | apply below_drew1) | exact HB.out))); (case aF => exact (fun _ _ => trivial)); (case aO => exact (by (with_reducible repeat (first | apply Kd.R_alloc | apply Kd.R_drewN | apply Kd.R_drew)); exact HO_3.out)); (case aS => exact (below_size (by repeat (first | (with_reducible first | exact HB.out | apply below_alloc | apply Zd | apply below_drew1) | exact HB.out)))); (case aL => have := LMc14.out; omega); intro v358 w17 ho hb hg hat; rw [← Ny357.out] at ho; have n0_ := Zm (Kd.S_over' (by (with_reducible repeat (first | apply Kd.S_alloc | apply Kd.S_drewN | apply Kd.S_drew)); exact HO_4.out) (Kd.R_typed (by (with_reducible repeat (first | apply Kd.R_alloc | apply Kd.R_drewN | apply Kd.R_drew)); exact HO_3.out)) (by decide) hg); have n1_ := Zm (Kd.R_over' (by (with_reducible repeat (first | apply Kd.R_alloc | apply Kd.R_drewN | apply Kd.R_drew)); exact HO_6.out) (Kd.R_typed (by (with_reducible repeat (first | apply Kd.R_alloc | apply Kd.R_drewN | apply Kd.R_drew)); exact HO_3.out)) (by decide) hg); have n2_ := Zm (hb); have n3_ := Zm (ho); clear HO_4; clear HO_6; clear HB; clear HO_3; have HO_4 := n0_; have HO_6 := n1_; have HB := n2_; have HO359 := n3_; clear n0_ n1_ n2_ n3_; clear ho hb hg hat) | ((with_reducible refine gate_builtin (b := .append) (xs := #[.tmp 58, .tmp 60]) rfl ?_); at_builtin; refine Kd.R_append (Kd.int .i64) (w0 := w) w.heap.size rfl (.tmp 58) (.tmp 60) 22 3 (.int .i64 0) 8 rfl Try.underlying22 info3 rfl (by decide) (by omega) u6 x6_2 x8_3 [.int .i64 x8_3] (fun _ => True) (fun _ => False) rfl rfl ?aP (fun _ hk => hk.elim) ?aF ?aO ?aB ?aS ?aL ?_; (case aP => exact rfl); (case aB => exact (by repeat (first | (with_reducible first | exact HB.out | apply below_alloc | apply Zd | apply below_drew1) | exact HB.out))); (case aF => exact (fun _ _ => trivial)); (case aO => exact (by (with_reducible repeat (first | apply Kd.R_alloc | apply Kd.R_drewN | apply Kd.R_drew)); exact HO_6.out)); (case aS => exact (below_size (by repeat (first | (with_reducible first | exact HB.out | apply below_alloc | apply Zd | apply below_drew1) | exact HB.out)))); (case aL => have := LMc15.out; omega); intro v361 w18 ho hb hg hat; rw [← Ny360.out] at ho; have n0_ := Zm (Kd.S_after (ok := (fun _ => True)) (by (with_reducible repeat (first | apply Kd.S_alloc | apply Kd.S_drewN | apply Kd.S_drew)); exact Kd.S_mono HO_4.out (fun _ hk => ⟨trivial, hk⟩)) hg hat); have n1_ := Zm (Kd.R_over' (by (with_reducible repeat (first | apply Kd.R_alloc | apply Kd.R_drewN | apply Kd.R_drew)); exact HO359.out) (Kd.R_typed (by (with_reducible repeat (first | apply Kd.R_alloc | apply Kd.R_drewN | apply Kd.R_drew)); exact HO_6.out)) (by decide) hg); have n2_ := Zm (hb); have n3_ := Zm (ho); clear HO_4; clear HO359; clear HB; clear HO_6; have HO_4 := n0_; have HO359 := n1_; have HB := n2_; have HO362 := n3_; clear n0_ n1_ n2_ n3_; clear ho hb hg hat)))
                     go_roundg k3
                     case measure => have := HK1.out; have := HK2.out; have := HK3.out; omega
                     case rel => exact ⟨(y357), (y360), (wrap64 (x7_2 + 1)), (by first | rfl | (simp; done) | (simp [*]; done)), H', ⟨by have := HK1.out; have := HK2.out; have := HK3.out; omega⟩, ⟨by (with_reducible repeat (first | apply Kd.R_alloc | apply Kd.R_drewN | apply Kd.R_drew)); first | exact HO359.out | exact Kd.R_mono HO359.out (fun _ _ => trivial)⟩, ⟨by (with_reducible repeat (first | apply Kd.S_alloc | apply Kd.S_drewN | apply Kd.S_drew)); exact Kd.S_mono HO_4.out (fun _ hk => hk.2)⟩, ⟨by (with_reducible repeat (first | apply Kd.R_alloc | apply Kd.R_drewN | apply Kd.R_drew)); first | exact HO362.out | exact Kd.R_mono HO362.out (fun _ _ => trivial)⟩, ⟨by repeat (first | (with_reducible first | exact HB.out | apply below_alloc | apply Zd | apply below_drew1) | exact HB.out)⟩⟩
                    ·rw [if_neg c15] at H
                     exact absurd H (by simp)
                   ·rw [if_neg c14] at H
                    exact absurd H (by simp)
                  ·rw [if_neg c13] at H
                   have c13b0 : (x8_3 == (x3_2.length : Int)) = false := beq_eq_false_iff_ne.mpr c13
                   have c13b1 : (x8_3 != (x3_2.length : Int)) = true := bne_iff_ne.mpr c13
                   by_cases c19 : x6_2.length < 17592186044416
                   ·rw [if_pos c19] at H
                    have LMc19 := Zm c19
                    clear c19
                    obtain ⟨y363, hy363⟩ : ∃ y_ : List Int, y_ = (x6_2 ++ [x8_3]) := ⟨_, rfl⟩
                    replace H : (r05_Numbers.l1 k3 l0 x3_2 x4_1 x5_1 y363 (wrap64 (x7_2 + 1))) = some r := by first | (rw [hy363]; with_reducible exact H) | (have H2_ := (Option.bind_some _ _).symm.trans H; rw [hy363]; with_reducible exact H2_) | (have H2_ := (Option.bind_some _ _).symm.trans H; with_reducible exact H2_) | with_reducible exact H | (rw [hy363]; exact H) | exact H
                    have Ny363 := Zm hy363
                    clear hy363
                    have H' := Zm H
                    clear H
                    obtain ⟨Ao20, co20, eo20⟩ := Kd.R_slice HO_3.out
                    subst eo20
                    have p352 : 0 ≤ (x8_3 : Int) := Zo (by first | (with_reducible assumption) | assumption)
                    have q352 : x8_3 < (x3_2.length : Int) := Zo (by first | (with_reducible assumption) | assumption)
                    obtain ⟨ad352, e352, hx352_0⟩ := Kd.at_string (Kd.R_reads' HO_3.out).2.2 x8_3 p352 q352
                    cases e352
                    replace p352 := eq_true p352
                    replace q352 := eq_true q352
                    have p353 : 0 ≤ (x5_1 : Int) := Zo (by first | (with_reducible assumption) | assumption)
                    have q353 : x5_1 < (l0.length : Int) := Zo (by first | (with_reducible assumption) | assumption)
                    obtain ⟨ad353, A353_0, c353_0, e353, hx353_0, hl353_0, hi353_0⟩ := at_L9 HR0.out x5_1 p353 q353
                    obtain rfl : ad348 = ad353 := (by injection e353)
                    replace hx353_0 := (HB.out.cell (World.block_lt_of_cell? w _ hx353_0)).trans hx353_0
                    have HR353_0 := Zm hi353_0
                    have HC353_0 := Zm hl353_0
                    clear hi353_0 hl353_0
                    replace p353 := eq_true p353
                    replace q353 := eq_true q353
                    have p354 : 0 ≤ (x7_2 : Int) := Zo (by first | (with_reducible assumption) | assumption)
                    have q354 : x7_2 < ((rd_L9 l0 x5_1).length : Int) := Zo (by first | (with_reducible assumption) | assumption)
                    obtain ⟨ad354, e354, hx354_0⟩ := Kd.at_string HR353_0.out x7_2 p354 q354
                    cases e354
                    replace hx354_0 := (HB.out.cell (World.block_lt_of_cell? w _ hx354_0)).trans hx354_0
                    replace p354 := eq_true p354
                    replace q354 := eq_true q354
                    go_wp2_with (first | ((with_reducible refine gate_builtin (b := .append) (xs := #[.tmp 58, .tmp 60]) rfl ?_); at_builtin; refine Kd.R_append (Kd.int .i64) (w0 := w) w.heap.size rfl (.tmp 58) (.tmp 60) 22 3 (.int .i64 0) 8 rfl Try.underlying22 info3 rfl (by decide) (by omega) u6 x6_2 x8_3 [.int .i64 x8_3] (fun _ => True) (fun _ => False) rfl rfl ?aP (fun _ hk => hk.elim) ?aF ?aO ?aB ?aS ?aL ?_; (case aP => exact rfl); (case aB => exact (by repeat (first | (with_reducible first | exact HB.out | apply below_alloc | apply Zd | apply below_drew1) | exact HB.out))); (case aF => exact (fun _ _ => trivial)); (case aO => exact (by (with_reducible repeat (first | apply Kd.R_alloc | apply Kd.R_drewN | apply Kd.R_drew)); exact HO_6.out)); (case aS => exact (below_size (by repeat (first | (with_reducible first | exact HB.out | apply below_alloc | apply Zd | apply below_drew1) | exact HB.out)))); (case aL => have := LMc19.out; omega); intro v364 w21 ho hb hg hat; rw [← Ny363.out] at ho; have n0_ := Zm (Kd.R_over' (by (with_reducible repeat (first | apply Kd.R_alloc | apply Kd.R_drewN | apply Kd.R_drew)); exact HO_3.out) (Kd.R_typed (by (with_reducible repeat (first | apply Kd.R_alloc | apply Kd.R_drewN | apply Kd.R_drew)); exact HO_6.out)) (by decide) hg); have n1_ := Zm (Kd.S_after (ok := (fun _ => True)) (by (with_reducible repeat (first | apply Kd.S_alloc | apply Kd.S_drewN | apply Kd.S_drew)); exact Kd.S_mono HO_4.out (fun _ hk => ⟨trivial, hk⟩)) hg hat); have n2_ := Zm (hb); have n3_ := Zm (ho); clear HO_3; clear HO_4; clear HB; clear HO_6; have HO_3 := n0_; have HO_4 := n1_; have HB := n2_; have HO365 := n3_; clear n0_ n1_ n2_ n3_; clear ho hb hg hat))
                    repeat (go_quiet (first | ((with_reducible refine gate_builtin (b := .append) (xs := #[.tmp 58, .tmp 60]) rfl ?_); at_builtin; refine Kd.R_append (Kd.int .i64) (w0 := w) w.heap.size rfl (.tmp 58) (.tmp 60) 22 3 (.int .i64 0) 8 rfl Try.underlying22 info3 rfl (by decide) (by omega) u6 x6_2 x8_3 [.int .i64 x8_3] (fun _ => True) (fun _ => False) rfl rfl ?aP (fun _ hk => hk.elim) ?aF ?aO ?aB ?aS ?aL ?_; (case aP => exact rfl); (case aB => exact (by repeat (first | (with_reducible first | exact HB.out | apply below_alloc | apply Zd | apply below_drew1) | exact HB.out))); (case aF => exact (fun _ _ => trivial)); (case aO => exact (by (with_reducible repeat (first | apply Kd.R_alloc | apply Kd.R_drewN | apply Kd.R_drew)); exact HO_6.out)); (case aS => exact (below_size (by repeat (first | (with_reducible first | exact HB.out | apply below_alloc | apply Zd | apply below_drew1) | exact HB.out)))); (case aL => have := LMc19.out; omega); intro v364 w21 ho hb hg hat; rw [← Ny363.out] at ho; have n0_ := Zm (Kd.R_over' (by (with_reducible repeat (first | apply Kd.R_alloc | apply Kd.R_drewN | apply Kd.R_drew)); exact HO_3.out) (Kd.R_typed (by (with_reducible repeat (first | apply Kd.R_alloc | apply Kd.R_drewN | apply Kd.R_drew)); exact HO_6.out)) (by decide) hg); have n1_ := Zm (Kd.S_after (ok := (fun _ => True)) (by (with_reducible repeat (first | apply Kd.S_alloc | apply Kd.S_drewN | apply Kd.S_drew)); exact Kd.S_mono HO_4.out (fun _ hk => ⟨trivial, hk⟩)) hg hat); have n2_ := Zm (hb); have n3_ := Zm (ho); clear HO_3; clear HO_4; clear HB; clear HO_6; have HO_3 := n0_; have HO_4 := n1_; have HB := n2_; have HO365 := n3_; clear n0_ n1_ n2_ n3_; clear ho hb hg hat)); try go_wp2_with (first | ((with_reducible refine gate_builtin (b := .append) (xs := #[.tmp 58, .tmp 60]) rfl ?_); at_builtin; refine Kd.R_append (Kd.int .i64) (w0 := w) w.heap.size rfl (.tmp 58) (.tmp 60) 22 3 (.int .i64 0) 8 rfl Try.underlying22 info3 rfl (by decide) (by omega) u6 x6_2 x8_3 [.int .i64 x8_3] (fun _ => True) (fun _ => False) rfl rfl ?aP (fun _ hk => hk.elim) ?aF ?aO ?aB ?aS ?aL ?_; (case aP => exact rfl); (case aB => exact (by repeat (first | (with_reducible first | exact HB.out | apply below_alloc | apply Zd | apply below_drew1) | exact HB.out))); (case aF => exact (fun _ _ => trivial)); (case aO => exact (by (with_reducible repeat (first | apply Kd.R_alloc | apply Kd.R_drewN | apply Kd.R_drew)); exact HO_6.out)); (case aS => exact (below_size (by repeat (first | (with_reducible first | exact HB.out | apply below_alloc | apply Zd | apply below_drew1) | exact HB.out)))); (case aL => have := LMc19.out; omega); intro v364 w21 ho hb hg hat; rw [← Ny363.out] at ho; have n0_ := Zm (Kd.R_over' (by (with_reducible repeat (first | apply Kd.R_alloc | apply Kd.R_drewN | apply Kd.R_drew)); exact HO_3.out) (Kd.R_typed (by (with_reducible repeat (first | apply Kd.R_alloc | apply Kd.R_drewN | apply Kd.R_drew)); exact HO_6.out)) (by decide) hg); have n1_ := Zm (Kd.S_after (ok := (fun _ => True)) (by (with_reducible repeat (first | apply Kd.S_alloc | apply Kd.S_drewN | apply Kd.S_drew)); exact Kd.S_mono HO_4.out (fun _ hk => ⟨trivial, hk⟩)) hg hat); have n2_ := Zm (hb); have n3_ := Zm (ho); clear HO_3; clear HO_4; clear HB; clear HO_6; have HO_3 := n0_; have HO_4 := n1_; have HB := n2_; have HO365 := n3_; clear n0_ n1_ n2_ n3_; clear ho hb hg hat)))
                    go_roundg k3
                    case measure => have := HK1.out; have := HK2.out; have := HK3.out; omega
                    case rel => exact ⟨(x3_2), (y363), (wrap64 (x7_2 + 1)), (by first | rfl | (simp; done) | (simp [*]; done)), H', ⟨by have := HK1.out; have := HK2.out; have := HK3.out; omega⟩, ⟨by (with_reducible repeat (first | apply Kd.R_alloc | apply Kd.R_drewN | apply Kd.R_drew)); first | exact HO_3.out | exact Kd.R_mono HO_3.out (fun _ _ => trivial)⟩, ⟨by (with_reducible repeat (first | apply Kd.S_alloc | apply Kd.S_drewN | apply Kd.S_drew)); exact Kd.S_mono HO_4.out (fun _ hk => hk.2)⟩, ⟨by (with_reducible repeat (first | apply Kd.R_alloc | apply Kd.R_drewN | apply Kd.R_drew)); first | exact HO365.out | exact Kd.R_mono HO365.out (fun _ _ => trivial)⟩, ⟨by repeat (first | (with_reducible first | exact HB.out | apply below_alloc | apply Zd | apply below_drew1) | exact HB.out)⟩⟩
                   ·rw [if_neg c19] at H
                    exact absurd H (by simp)
                 ·rw [if_neg c12] at H
                  have c12b0 : ((rdOf ByteArray.empty x3_2 x8_3).toList == (rdOf ByteArray.empty (rd_L9 l0 x5_1) x7_2).toList) = false := beq_eq_false_iff_ne.mpr c12
                  have c12b1 : ((rdOf ByteArray.empty x3_2 x8_3).toList != (rdOf ByteArray.empty (rd_L9 l0 x5_1) x7_2).toList) = true := bne_iff_ne.mpr c12
                  have H' := Zm H
                  clear H
                  obtain ⟨Ao22, co22, eo22⟩ := Kd.R_slice HO_3.out
                  subst eo22
                  have p352 : 0 ≤ (x8_3 : Int) := Zo (by first | (with_reducible assumption) | assumption)
                  have q352 : x8_3 < (x3_2.length : Int) := Zo (by first | (with_reducible assumption) | assumption)
                  obtain ⟨ad352, e352, hx352_0⟩ := Kd.at_string (Kd.R_reads' HO_3.out).2.2 x8_3 p352 q352
                  cases e352
                  replace p352 := eq_true p352
                  replace q352 := eq_true q352
                  have p353 : 0 ≤ (x5_1 : Int) := Zo (by first | (with_reducible assumption) | assumption)
                  have q353 : x5_1 < (l0.length : Int) := Zo (by first | (with_reducible assumption) | assumption)
                  obtain ⟨ad353, A353_0, c353_0, e353, hx353_0, hl353_0, hi353_0⟩ := at_L9 HR0.out x5_1 p353 q353
                  obtain rfl : ad348 = ad353 := (by injection e353)
                  replace hx353_0 := (HB.out.cell (World.block_lt_of_cell? w _ hx353_0)).trans hx353_0
                  have HR353_0 := Zm hi353_0
                  have HC353_0 := Zm hl353_0
                  clear hi353_0 hl353_0
                  replace p353 := eq_true p353
                  replace q353 := eq_true q353
                  have p354 : 0 ≤ (x7_2 : Int) := Zo (by first | (with_reducible assumption) | assumption)
                  have q354 : x7_2 < ((rd_L9 l0 x5_1).length : Int) := Zo (by first | (with_reducible assumption) | assumption)
                  obtain ⟨ad354, e354, hx354_0⟩ := Kd.at_string HR353_0.out x7_2 p354 q354
                  cases e354
                  replace hx354_0 := (HB.out.cell (World.block_lt_of_cell? w _ hx354_0)).trans hx354_0
                  replace p354 := eq_true p354
                  replace q354 := eq_true q354
                  go_wp2
                  repeat (go_quiet (fail); try go_wp2)
                  go_roundg k3
                  case measure => have := HK1.out; have := HK2.out; have := HK3.out; omega
                  case rel => exact ⟨(wrap64 (x8_3 + 1)), (by first | rfl | (simp; done) | (simp [*]; done)), H', ⟨by have := HK1.out; have := HK2.out; have := HK3.out; omega⟩, ⟨by (with_reducible repeat (first | apply Kd.R_alloc | apply Kd.R_drewN | apply Kd.R_drew)); first | exact HO_3.out | exact Kd.R_mono HO_3.out (fun _ _ => trivial)⟩, ⟨by (with_reducible repeat (first | apply Kd.S_alloc | apply Kd.S_drewN | apply Kd.S_drew)); exact HO_4.out⟩, ⟨by (with_reducible repeat (first | apply Kd.R_alloc | apply Kd.R_drewN | apply Kd.R_drew)); first | exact HO_6.out | exact Kd.R_mono HO_6.out (fun _ _ => trivial)⟩, ⟨by repeat (first | (with_reducible first | exact HB.out | apply below_alloc | apply Zd | apply below_drew1) | exact HB.out)⟩⟩
                ·rw [if_neg c11] at H
                 exact absurd H (by simp)
               ·rw [if_neg c10] at H
                exact absurd H (by simp)
              ·rw [if_neg c9] at H
               exact absurd H (by simp)
             ·rw [if_neg c8] at H
              exact absurd H (by simp)
            ·rw [if_neg c7] at H
             exact absurd H (by simp)
           ·rw [if_neg c6] at H
            have c6b0 : decide (x8_3 < (x3_2.length : Int)) = false := decide_eq_false c6
            clear c6
            by_cases c23 : x8_3 = (x3_2.length : Int)
            ·rw [if_pos c23] at H
             have c23b0 : (x8_3 == (x3_2.length : Int)) = true := beq_iff_eq.mpr c23
             have c23b1 : (x8_3 != (x3_2.length : Int)) = false := bne_eq_false_iff_eq.mpr c23
             clear c23
             by_cases c24 : 0 ≤ x5_1
             ·rw [if_pos c24] at H
              have c24b0 : decide (0 ≤ x5_1) = true := decide_eq_true c24
              clear c24
              by_cases c25 : x5_1 < (l0.length : Int)
              ·rw [if_pos c25] at H
               have c25b0 : decide (x5_1 < (l0.length : Int)) = true := decide_eq_true c25
               clear c25
               by_cases c26 : 0 ≤ x7_2
               ·rw [if_pos c26] at H
                have c26b0 : decide (0 ≤ x7_2) = true := decide_eq_true c26
                clear c26
                by_cases c27 : x7_2 < ((rd_L9 l0 x5_1).length : Int)
                ·rw [if_pos c27] at H
                 have c27b0 : decide (x7_2 < ((rd_L9 l0 x5_1).length : Int)) = true := decide_eq_true c27
                 clear c27
                 by_cases c28 : x3_2.length < 8796093022208
                 ·rw [if_pos c28] at H
                  have LMc28 := Zm c28
                  clear c28
                  obtain ⟨y368, hy368⟩ : ∃ y_ : List ByteArray, y_ = (x3_2 ++ [rdOf ByteArray.empty (rd_L9 l0 x5_1) x7_2]) := ⟨_, rfl⟩
                  replace H : (if x6_2.length < 17592186044416 then (r05_Numbers.l1 k3 l0 y368 x4_1 x5_1 (x6_2 ++ [x8_3]) (wrap64 (x7_2 + 1))) else (none)) = some r := by first | (rw [hy368]; with_reducible exact H) | (have H2_ := (Option.bind_some _ _).symm.trans H; rw [hy368]; with_reducible exact H2_) | (have H2_ := (Option.bind_some _ _).symm.trans H; with_reducible exact H2_) | with_reducible exact H | (rw [hy368]; exact H) | exact H
                  have Ny368 := Zm hy368
                  clear hy368
                  by_cases c29 : x6_2.length < 17592186044416
                  ·rw [if_pos c29] at H
                   have LMc29 := Zm c29
                   clear c29
                   obtain ⟨y371, hy371⟩ : ∃ y_ : List Int, y_ = (x6_2 ++ [x8_3]) := ⟨_, rfl⟩
                   replace H : (r05_Numbers.l1 k3 l0 y368 x4_1 x5_1 y371 (wrap64 (x7_2 + 1))) = some r := by first | (rw [hy371]; with_reducible exact H) | (have H2_ := (Option.bind_some _ _).symm.trans H; rw [hy371]; with_reducible exact H2_) | (have H2_ := (Option.bind_some _ _).symm.trans H; with_reducible exact H2_) | with_reducible exact H | (rw [hy371]; exact H) | exact H
                   have Ny371 := Zm hy371
                   clear hy371
                   have H' := Zm H
                   clear H
                   obtain ⟨Ao30, co30, eo30⟩ := Kd.R_slice HO_3.out
                   subst eo30
                   have p366 : 0 ≤ (x5_1 : Int) := Zo (by first | (with_reducible assumption) | assumption)
                   have q366 : x5_1 < (l0.length : Int) := Zo (by first | (with_reducible assumption) | assumption)
                   obtain ⟨ad366, A366_0, c366_0, e366, hx366_0, hl366_0, hi366_0⟩ := at_L9 HR0.out x5_1 p366 q366
                   obtain rfl : ad348 = ad366 := (by injection e366)
                   replace hx366_0 := (HB.out.cell (World.block_lt_of_cell? w _ hx366_0)).trans hx366_0
                   have HR366_0 := Zm hi366_0
                   have HC366_0 := Zm hl366_0
                   clear hi366_0 hl366_0
                   replace p366 := eq_true p366
                   replace q366 := eq_true q366
                   have p367 : 0 ≤ (x7_2 : Int) := Zo (by first | (with_reducible assumption) | assumption)
                   have q367 : x7_2 < ((rd_L9 l0 x5_1).length : Int) := Zo (by first | (with_reducible assumption) | assumption)
                   obtain ⟨ad367, e367, hx367_0⟩ := Kd.at_string HR366_0.out x7_2 p367 q367
                   cases e367
                   replace hx367_0 := (HB.out.cell (World.block_lt_of_cell? w _ hx367_0)).trans hx367_0
                   replace p367 := eq_true p367
                   replace q367 := eq_true q367
                   go_wp2_with (first | ((with_reducible refine gate_builtin (b := .append) (xs := #[.tmp 48, .tmp 56]) rfl ?_); at_builtin; refine Kd.R_append Kd.string (w0 := w) w.heap.size rfl (.tmp 48) (.tmp 56) 32 9 (.string ⟨#[]⟩) 16 rfl Try.underlying32 info9 rfl (by decide) (by omega) (.slice Ao30 x3_2.length co30) x3_2 (rdOf ByteArray.empty (rd_L9 l0 x5_1) x7_2) [.string (rdOf ByteArray.empty (rd_L9 l0 x5_1) x7_2)] (fun _ => True) (fun _ => False) rfl rfl ?aP (fun _ hk => hk.elim) ?aF ?aO ?aB ?aS ?aL ?_; (case aP => exact rfl); (case aB => exact (by repeat (first | (with_reducible first | exact HB.out | apply below_alloc | apply Zd | apply below_drew1) | exact HB.out))); (case aF => exact (fun _ _ => trivial)); (case aO => exact (by (with_reducible repeat (first | apply Kd.R_alloc | apply Kd.R_drewN | apply Kd.R_drew)); exact HO_3.out)); (case aS => exact (below_size (by repeat (first | (with_reducible first | exact HB.out | apply below_alloc | apply Zd | apply below_drew1) | exact HB.out)))); (case aL => have := LMc28.out; omega); intro v369 w31 ho hb hg hat; rw [← Ny368.out] at ho; have n0_ := Zm (Kd.S_over' (by (with_reducible repeat (first | apply Kd.S_alloc | apply Kd.S_drewN | apply Kd.S_drew)); exact HO_4.out) (Kd.R_typed (by (with_reducible repeat (first | apply Kd.R_alloc | apply Kd.R_drewN | apply Kd.R_drew)); exact HO_3.out)) (by decide) hg); have n1_ := Zm (Kd.R_over' (by (with_reducible repeat (first | apply Kd.R_alloc | apply Kd.R_drewN | apply Kd.R_drew)); exact HO_6.out) (Kd.R_typed (by (with_reducible repeat (first | apply Kd.R_alloc | apply Kd.R_drewN | apply Kd.R_drew)); exact HO_3.out)) (by decide) hg); have n2_ := Zm (hb); have n3_ := Zm (ho); clear HO_4; clear HO_6; clear HB; clear HO_3; have HO_4 := n0_; have HO_6 := n1_; have HB := n2_; have HO370 := n3_; clear n0_ n1_ n2_ n3_; clear ho hb hg hat) | ((with_reducible refine gate_builtin (b := .append) (xs := #[.tmp 58, .tmp 60]) rfl ?_); at_builtin; refine Kd.R_append (Kd.int .i64) (w0 := w) w.heap.size rfl (.tmp 58) (.tmp 60) 22 3 (.int .i64 0) 8 rfl Try.underlying22 info3 rfl (by decide) (by omega) u6 x6_2 x8_3 [.int .i64 x8_3] (fun _ => True) (fun _ => False) rfl rfl ?aP (fun _ hk => hk.elim) ?aF ?aO ?aB ?aS ?aL ?_; (case aP => exact rfl); (case aB => exact (by repeat (first | (with_reducible first | exact HB.out | apply below_alloc | apply Zd | apply below_drew1) | exact HB.out))); (case aF => exact (fun _ _ => trivial)); (case aO => exact (by (with_reducible repeat (first | apply Kd.R_alloc | apply Kd.R_drewN | apply Kd.R_drew)); exact HO_6.out)); (case aS => exact (below_size (by repeat (first | (with_reducible first | exact HB.out | apply below_alloc | apply Zd | apply below_drew1) | exact HB.out)))); (case aL => have := LMc29.out; omega); intro v372 w32 ho hb hg hat; rw [← Ny371.out] at ho; have n0_ := Zm (Kd.S_after (ok := (fun _ => True)) (by (with_reducible repeat (first | apply Kd.S_alloc | apply Kd.S_drewN | apply Kd.S_drew)); exact Kd.S_mono HO_4.out (fun _ hk => ⟨trivial, hk⟩)) hg hat); have n1_ := Zm (Kd.R_over' (by (with_reducible repeat (first | apply Kd.R_alloc | apply Kd.R_drewN | apply Kd.R_drew)); exact HO370.out) (Kd.R_typed (by (with_reducible repeat (first | apply Kd.R_alloc | apply Kd.R_drewN | apply Kd.R_drew)); exact HO_6.out)) (by decide) hg); have n2_ := Zm (hb); have n3_ := Zm (ho); clear HO_4; clear HO370; clear HB; clear HO_6; have HO_4 := n0_; have HO370 := n1_; have HB := n2_; have HO373 := n3_; clear n0_ n1_ n2_ n3_; clear ho hb hg hat))
                   repeat (go_quiet (first | ((with_reducible refine gate_builtin (b := .append) (xs := #[.tmp 48, .tmp 56]) rfl ?_); at_builtin; refine Kd.R_append Kd.string (w0 := w) w.heap.size rfl (.tmp 48) (.tmp 56) 32 9 (.string ⟨#[]⟩) 16 rfl Try.underlying32 info9 rfl (by decide) (by omega) (.slice Ao30 x3_2.length co30) x3_2 (rdOf ByteArray.empty (rd_L9 l0 x5_1) x7_2) [.string (rdOf ByteArray.empty (rd_L9 l0 x5_1) x7_2)] (fun _ => True) (fun _ => False) rfl rfl ?aP (fun _ hk => hk.elim) ?aF ?aO ?aB ?aS ?aL ?_; (case aP => exact rfl); (case aB => exact (by repeat (first | (with_reducible first | exact HB.out | apply below_alloc | apply Zd | apply below_drew1) | exact HB.out))); (case aF => exact (fun _ _ => trivial)); (case aO => exact (by (with_reducible repeat (first | apply Kd.R_alloc | apply Kd.R_drewN | apply Kd.R_drew)); exact HO_3.out)); (case aS => exact (below_size (by repeat (first | (with_reducible first | exact HB.out | apply below_alloc | apply Zd | apply below_drew1) | exact HB.out)))); (case aL => have := LMc28.out; omega); intro v369 w31 ho hb hg hat; rw [← Ny368.out] at ho; have n0_ := Zm (Kd.S_over' (by (with_reducible repeat (first | apply Kd.S_alloc | apply Kd.S_drewN | apply Kd.S_drew)); exact HO_4.out) (Kd.R_typed (by (with_reducible repeat (first | apply Kd.R_alloc | apply Kd.R_drewN | apply Kd.R_drew)); exact HO_3.out)) (by decide) hg); have n1_ := Zm (Kd.R_over' (by (with_reducible repeat (first | apply Kd.R_alloc | apply Kd.R_drewN | apply Kd.R_drew)); exact HO_6.out) (Kd.R_typed (by (with_reducible repeat (first | apply Kd.R_alloc | apply Kd.R_drewN | apply Kd.R_drew)); exact HO_3.out)) (by decide) hg); have n2_ := Zm (hb); have n3_ := Zm (ho); clear HO_4; clear HO_6; clear HB; clear HO_3; have HO_4 := n0_; have HO_6 := n1_; have HB := n2_; have HO370 := n3_; clear n0_ n1_ n2_ n3_; clear ho hb hg hat) | ((with_reducible refine gate_builtin (b := .append) (xs := #[.tmp 58, .tmp 60]) rfl ?_); at_builtin; refine Kd.R_append (Kd.int .i64) (w0 := w) w.heap.size rfl (.tmp 58) (.tmp 60) 22 3 (.int .i64 0) 8 rfl Try.underlying22 info3 rfl (by decide) (by omega) u6 x6_2 x8_3 [.int .i64 x8_3] (fun _ => True) (fun _ => False) rfl rfl ?aP (fun _ hk => hk.elim) ?aF ?aO ?aB ?aS ?aL ?_; (case aP => exact rfl); (case aB => exact (by repeat (first | (with_reducible first | exact HB.out | apply below_alloc | apply Zd | apply below_drew1) | exact HB.out))); (case aF => exact (fun _ _ => trivial)); (case aO => exact (by (with_reducible repeat (first | apply Kd.R_alloc | apply Kd.R_drewN | apply Kd.R_drew)); exact HO_6.out)); (case aS => exact (below_size (by repeat (first | (with_reducible first | exact HB.out | apply below_alloc | apply Zd | apply below_drew1) | exact HB.out)))); (case aL => have := LMc29.out; omega); intro v372 w32 ho hb hg hat; rw [← Ny371.out] at ho; have n0_ := Zm (Kd.S_after (ok := (fun _ => True)) (by (with_reducible repeat (first | apply Kd.S_alloc | apply Kd.S_drewN | apply Kd.S_drew)); exact Kd.S_mono HO_4.out (fun _ hk => ⟨trivial, hk⟩)) hg hat); have n1_ := Zm (Kd.R_over' (by (with_reducible repeat (first | apply Kd.R_alloc | apply Kd.R_drewN | apply Kd.R_drew)); exact HO370.out) (Kd.R_typed (by (with_reducible repeat (first | apply Kd.R_alloc | apply Kd.R_drewN | apply Kd.R_drew)); exact HO_6.out)) (by decide) hg); have n2_ := Zm (hb); have n3_ := Zm (ho); clear HO_4; clear HO370; clear HB; clear HO_6; have HO_4 := n0_; have HO370 := n1_; have HB := n2_; have HO373 := n3_; clear n0_ n1_ n2_ n3_; clear ho hb hg hat)); try go_wp2_with (first | ((with_reducible refine gate_builtin (b := .append) (xs := #[.tmp 48, .tmp 56]) rfl ?_); at_builtin; refine Kd.R_append Kd.string (w0 := w) w.heap.size rfl (.tmp 48) (.tmp 56) 32 9 (.string ⟨#[]⟩) 16 rfl Try.underlying32 info9 rfl (by decide) (by omega) (.slice Ao30 x3_2.length co30) x3_2 (rdOf ByteArray.empty (rd_L9 l0 x5_1) x7_2) [.string (rdOf ByteArray.empty (rd_L9 l0 x5_1) x7_2)] (fun _ => True) (fun _ => False) rfl rfl ?aP (fun _ hk => hk.elim) ?aF ?aO ?aB ?aS ?aL ?_; (case aP => exact rfl); (case aB => exact (by repeat (first | (with_reducible first | exact HB.out | apply below_alloc | apply Zd | apply below_drew1) | exact HB.out))); (case aF => exact (fun _ _ => trivial)); (case aO => exact (by (with_reducible repeat (first | apply Kd.R_alloc | apply Kd.R_drewN | apply Kd.R_drew)); exact HO_3.out)); (case aS => exact (below_size (by repeat (first | (with_reducible first | exact HB.out | apply below_alloc | apply Zd | apply below_drew1) | exact HB.out)))); (case aL => have := LMc28.out; omega); intro v369 w31 ho hb hg hat; rw [← Ny368.out] at ho; have n0_ := Zm (Kd.S_over' (by (with_reducible repeat (first | apply Kd.S_alloc | apply Kd.S_drewN | apply Kd.S_drew)); exact HO_4.out) (Kd.R_typed (by (with_reducible repeat (first | apply Kd.R_alloc | apply Kd.R_drewN | apply Kd.R_drew)); exact HO_3.out)) (by decide) hg); have n1_ := Zm (Kd.R_over' (by (with_reducible repeat (first | apply Kd.R_alloc | apply Kd.R_drewN | apply Kd.R_drew)); exact HO_6.out) (Kd.R_typed (by (with_reducible repeat (first | apply Kd.R_alloc | apply Kd.R_drewN | apply Kd.R_drew)); exact HO_3.out)) (by decide) hg); have n2_ := Zm (hb); have n3_ := Zm (ho); clear HO_4; clear HO_6; clear HB; clear HO_3; have HO_4 := n0_; have HO_6 := n1_; have HB := n2_; have HO370 := n3_; clear n0_ n1_ n2_ n3_; clear ho hb hg hat) | ((with_reducible refine gate_builtin (b := .append) (xs := #[.tmp 58, .tmp 60]) rfl ?_); at_builtin; refine Kd.R_append (Kd.int .i64) (w0 := w) w.heap.size rfl (.tmp 58) (.tmp 60) 22 3 (.int .i64 0) 8 rfl Try.underlying22 info3 rfl (by decide) (by omega) u6 x6_2 x8_3 [.int .i64 x8_3] (fun _ => True) (fun _ => False) rfl rfl ?aP (fun _ hk => hk.elim) ?aF ?aO ?aB ?aS ?aL ?_; (case aP => exact rfl); (case aB => exact (by repeat (first | (with_reducible first | exact HB.out | apply below_alloc | apply Zd | apply below_drew1) | exact HB.out))); (case aF => exact (fun _ _ => trivial)); (case aO => exact (by (with_reducible repeat (first | apply Kd.R_alloc | apply Kd.R_drewN | apply Kd.R_drew)); exact HO_6.out)); (case aS => exact (below_size (by repeat (first | (with_reducible first | exact HB.out | apply below_alloc | apply Zd | apply below_drew1) | exact HB.out)))); (case aL => have := LMc29.out; omega); intro v372 w32 ho hb hg hat; rw [← Ny371.out] at ho; have n0_ := Zm (Kd.S_after (ok := (fun _ => True)) (by (with_reducible repeat (first | apply Kd.S_alloc | apply Kd.S_drewN | apply Kd.S_drew)); exact Kd.S_mono HO_4.out (fun _ hk => ⟨trivial, hk⟩)) hg hat); have n1_ := Zm (Kd.R_over' (by (with_reducible repeat (first | apply Kd.R_alloc | apply Kd.R_drewN | apply Kd.R_drew)); exact HO370.out) (Kd.R_typed (by (with_reducible repeat (first | apply Kd.R_alloc | apply Kd.R_drewN | apply Kd.R_drew)); exact HO_6.out)) (by decide) hg); have n2_ := Zm (hb); have n3_ := Zm (ho); clear HO_4; clear HO370; clear HB; clear HO_6; have HO_4 := n0_; have HO370 := n1_; have HB := n2_; have HO373 := n3_; clear n0_ n1_ n2_ n3_; clear ho hb hg hat)))
                   go_roundg k3
                   case measure => have := HK1.out; have := HK2.out; have := HK3.out; omega
                   case rel => exact ⟨(y368), (y371), (wrap64 (x7_2 + 1)), (by first | rfl | (simp; done) | (simp [*]; done)), H', ⟨by have := HK1.out; have := HK2.out; have := HK3.out; omega⟩, ⟨by (with_reducible repeat (first | apply Kd.R_alloc | apply Kd.R_drewN | apply Kd.R_drew)); first | exact HO370.out | exact Kd.R_mono HO370.out (fun _ _ => trivial)⟩, ⟨by (with_reducible repeat (first | apply Kd.S_alloc | apply Kd.S_drewN | apply Kd.S_drew)); exact Kd.S_mono HO_4.out (fun _ hk => hk.2)⟩, ⟨by (with_reducible repeat (first | apply Kd.R_alloc | apply Kd.R_drewN | apply Kd.R_drew)); first | exact HO373.out | exact Kd.R_mono HO373.out (fun _ _ => trivial)⟩, ⟨by repeat (first | (with_reducible first | exact HB.out | apply below_alloc | apply Zd | apply below_drew1) | exact HB.out)⟩⟩
                  ·rw [if_neg c29] at H
                   exact absurd H (by simp)
                 ·rw [if_neg c28] at H
                  exact absurd H (by simp)
                ·rw [if_neg c27] at H
                 exact absurd H (by simp)
               ·rw [if_neg c26] at H
                exact absurd H (by simp)
              ·rw [if_neg c25] at H
               exact absurd H (by simp)
             ·rw [if_neg c24] at H
              exact absurd H (by simp)
            ·rw [if_neg c23] at H
             have c23b0 : (x8_3 == (x3_2.length : Int)) = false := beq_eq_false_iff_ne.mpr c23
             have c23b1 : (x8_3 != (x3_2.length : Int)) = true := bne_iff_ne.mpr c23
             by_cases c33 : x6_2.length < 17592186044416
             ·rw [if_pos c33] at H
              have LMc33 := Zm c33
              clear c33
              obtain ⟨y374, hy374⟩ : ∃ y_ : List Int, y_ = (x6_2 ++ [x8_3]) := ⟨_, rfl⟩
              replace H : (r05_Numbers.l1 k3 l0 x3_2 x4_1 x5_1 y374 (wrap64 (x7_2 + 1))) = some r := by first | (rw [hy374]; with_reducible exact H) | (have H2_ := (Option.bind_some _ _).symm.trans H; rw [hy374]; with_reducible exact H2_) | (have H2_ := (Option.bind_some _ _).symm.trans H; with_reducible exact H2_) | with_reducible exact H | (rw [hy374]; exact H) | exact H
              have Ny374 := Zm hy374
              clear hy374
              have H' := Zm H
              clear H
              obtain ⟨Ao34, co34, eo34⟩ := Kd.R_slice HO_3.out
              subst eo34
              go_wp2_with (first | ((with_reducible refine gate_builtin (b := .append) (xs := #[.tmp 58, .tmp 60]) rfl ?_); at_builtin; refine Kd.R_append (Kd.int .i64) (w0 := w) w.heap.size rfl (.tmp 58) (.tmp 60) 22 3 (.int .i64 0) 8 rfl Try.underlying22 info3 rfl (by decide) (by omega) u6 x6_2 x8_3 [.int .i64 x8_3] (fun _ => True) (fun _ => False) rfl rfl ?aP (fun _ hk => hk.elim) ?aF ?aO ?aB ?aS ?aL ?_; (case aP => exact rfl); (case aB => exact (by repeat (first | (with_reducible first | exact HB.out | apply below_alloc | apply Zd | apply below_drew1) | exact HB.out))); (case aF => exact (fun _ _ => trivial)); (case aO => exact (by (with_reducible repeat (first | apply Kd.R_alloc | apply Kd.R_drewN | apply Kd.R_drew)); exact HO_6.out)); (case aS => exact (below_size (by repeat (first | (with_reducible first | exact HB.out | apply below_alloc | apply Zd | apply below_drew1) | exact HB.out)))); (case aL => have := LMc33.out; omega); intro v375 w35 ho hb hg hat; rw [← Ny374.out] at ho; have n0_ := Zm (Kd.R_over' (by (with_reducible repeat (first | apply Kd.R_alloc | apply Kd.R_drewN | apply Kd.R_drew)); exact HO_3.out) (Kd.R_typed (by (with_reducible repeat (first | apply Kd.R_alloc | apply Kd.R_drewN | apply Kd.R_drew)); exact HO_6.out)) (by decide) hg); have n1_ := Zm (Kd.S_after (ok := (fun _ => True)) (by (with_reducible repeat (first | apply Kd.S_alloc | apply Kd.S_drewN | apply Kd.S_drew)); exact Kd.S_mono HO_4.out (fun _ hk => ⟨trivial, hk⟩)) hg hat); have n2_ := Zm (hb); have n3_ := Zm (ho); clear HO_3; clear HO_4; clear HB; clear HO_6; have HO_3 := n0_; have HO_4 := n1_; have HB := n2_; have HO376 := n3_; clear n0_ n1_ n2_ n3_; clear ho hb hg hat))
              repeat (go_quiet (first | ((with_reducible refine gate_builtin (b := .append) (xs := #[.tmp 58, .tmp 60]) rfl ?_); at_builtin; refine Kd.R_append (Kd.int .i64) (w0 := w) w.heap.size rfl (.tmp 58) (.tmp 60) 22 3 (.int .i64 0) 8 rfl Try.underlying22 info3 rfl (by decide) (by omega) u6 x6_2 x8_3 [.int .i64 x8_3] (fun _ => True) (fun _ => False) rfl rfl ?aP (fun _ hk => hk.elim) ?aF ?aO ?aB ?aS ?aL ?_; (case aP => exact rfl); (case aB => exact (by repeat (first | (with_reducible first | exact HB.out | apply below_alloc | apply Zd | apply below_drew1) | exact HB.out))); (case aF => exact (fun _ _ => trivial)); (case aO => exact (by (with_reducible repeat (first | apply Kd.R_alloc | apply Kd.R_drewN | apply Kd.R_drew)); exact HO_6.out)); (case aS => exact (below_size (by repeat (first | (with_reducible first | exact HB.out | apply below_alloc | apply Zd | apply below_drew1) | exact HB.out)))); (case aL => have := LMc33.out; omega); intro v375 w35 ho hb hg hat; rw [← Ny374.out] at ho; have n0_ := Zm (Kd.R_over' (by (with_reducible repeat (first | apply Kd.R_alloc | apply Kd.R_drewN | apply Kd.R_drew)); exact HO_3.out) (Kd.R_typed (by (with_reducible repeat (first | apply Kd.R_alloc | apply Kd.R_drewN | apply Kd.R_drew)); exact HO_6.out)) (by decide) hg); have n1_ := Zm (Kd.S_after (ok := (fun _ => True)) (by (with_reducible repeat (first | apply Kd.S_alloc | apply Kd.S_drewN | apply Kd.S_drew)); exact Kd.S_mono HO_4.out (fun _ hk => ⟨trivial, hk⟩)) hg hat); have n2_ := Zm (hb); have n3_ := Zm (ho); clear HO_3; clear HO_4; clear HB; clear HO_6; have HO_3 := n0_; have HO_4 := n1_; have HB := n2_; have HO376 := n3_; clear n0_ n1_ n2_ n3_; clear ho hb hg hat)); try go_wp2_with (first | ((with_reducible refine gate_builtin (b := .append) (xs := #[.tmp 58, .tmp 60]) rfl ?_); at_builtin; refine Kd.R_append (Kd.int .i64) (w0 := w) w.heap.size rfl (.tmp 58) (.tmp 60) 22 3 (.int .i64 0) 8 rfl Try.underlying22 info3 rfl (by decide) (by omega) u6 x6_2 x8_3 [.int .i64 x8_3] (fun _ => True) (fun _ => False) rfl rfl ?aP (fun _ hk => hk.elim) ?aF ?aO ?aB ?aS ?aL ?_; (case aP => exact rfl); (case aB => exact (by repeat (first | (with_reducible first | exact HB.out | apply below_alloc | apply Zd | apply below_drew1) | exact HB.out))); (case aF => exact (fun _ _ => trivial)); (case aO => exact (by (with_reducible repeat (first | apply Kd.R_alloc | apply Kd.R_drewN | apply Kd.R_drew)); exact HO_6.out)); (case aS => exact (below_size (by repeat (first | (with_reducible first | exact HB.out | apply below_alloc | apply Zd | apply below_drew1) | exact HB.out)))); (case aL => have := LMc33.out; omega); intro v375 w35 ho hb hg hat; rw [← Ny374.out] at ho; have n0_ := Zm (Kd.R_over' (by (with_reducible repeat (first | apply Kd.R_alloc | apply Kd.R_drewN | apply Kd.R_drew)); exact HO_3.out) (Kd.R_typed (by (with_reducible repeat (first | apply Kd.R_alloc | apply Kd.R_drewN | apply Kd.R_drew)); exact HO_6.out)) (by decide) hg); have n1_ := Zm (Kd.S_after (ok := (fun _ => True)) (by (with_reducible repeat (first | apply Kd.S_alloc | apply Kd.S_drewN | apply Kd.S_drew)); exact Kd.S_mono HO_4.out (fun _ hk => ⟨trivial, hk⟩)) hg hat); have n2_ := Zm (hb); have n3_ := Zm (ho); clear HO_3; clear HO_4; clear HB; clear HO_6; have HO_3 := n0_; have HO_4 := n1_; have HB := n2_; have HO376 := n3_; clear n0_ n1_ n2_ n3_; clear ho hb hg hat)))
              go_roundg k3
              case measure => have := HK1.out; have := HK2.out; have := HK3.out; omega
              case rel => exact ⟨(x3_2), (y374), (wrap64 (x7_2 + 1)), (by first | rfl | (simp; done) | (simp [*]; done)), H', ⟨by have := HK1.out; have := HK2.out; have := HK3.out; omega⟩, ⟨by (with_reducible repeat (first | apply Kd.R_alloc | apply Kd.R_drewN | apply Kd.R_drew)); first | exact HO_3.out | exact Kd.R_mono HO_3.out (fun _ _ => trivial)⟩, ⟨by (with_reducible repeat (first | apply Kd.S_alloc | apply Kd.S_drewN | apply Kd.S_drew)); exact Kd.S_mono HO_4.out (fun _ hk => hk.2)⟩, ⟨by (with_reducible repeat (first | apply Kd.R_alloc | apply Kd.R_drewN | apply Kd.R_drew)); first | exact HO376.out | exact Kd.R_mono HO376.out (fun _ _ => trivial)⟩, ⟨by repeat (first | (with_reducible first | exact HB.out | apply below_alloc | apply Zd | apply below_drew1) | exact HB.out)⟩⟩
             ·rw [if_neg c33] at H
              exact absurd H (by simp)
        ·rw [if_neg c5] at H
         have c5b0 : decide (x7_2 < ((rd_L9 l0 x5_1).length : Int)) = false := decide_eq_false c5
         clear c5
         by_cases c36 : x4_1.length < 5864062014805
         ·rw [if_pos c36] at H
          have LMc36 := Zm c36
          clear c36
          obtain ⟨y349, hy349⟩ : ∃ y_ : List (List Int), y_ = (x4_1 ++ [x6_2]) := ⟨_, rfl⟩
          replace H : (r05_Numbers.l0 k2 l0 x3_2 y349 (wrap64 (x5_1 + 1))) = some r := by first | (rw [hy349]; with_reducible exact H) | (have H2_ := (Option.bind_some _ _).symm.trans H; rw [hy349]; with_reducible exact H2_) | (have H2_ := (Option.bind_some _ _).symm.trans H; with_reducible exact H2_) | with_reducible exact H | (rw [hy349]; exact H) | exact H
          have Ny349 := Zm hy349
          clear hy349
          have H' := Zm H
          clear H
          have p348 : 0 ≤ (x5_1 : Int) := Zo (by first | (with_reducible assumption) | assumption)
          have q348 : x5_1 < (l0.length : Int) := Zo (by first | (with_reducible assumption) | assumption)
          obtain ⟨ad348, A348_0, c348_0, e348, hx348_0, hl348_0, hi348_0⟩ := at_L9 HR0.out x5_1 p348 q348
          cases e348
          replace hx348_0 := (HB.out.cell (World.block_lt_of_cell? w _ hx348_0)).trans hx348_0
          have HR348_0 := Zm hi348_0
          have HC348_0 := Zm hl348_0
          clear hi348_0 hl348_0
          replace p348 := eq_true p348
          replace q348 := eq_true q348
          obtain ⟨Ao38, co38, eo38⟩ := Kd.R_slice HO_6.out
          subst eo38
          go_wp2_with (first | ((with_reducible refine gate_builtin (b := .append) (xs := #[.tmp 62, .tmp 64]) rfl ?_); at_builtin; refine Kd.S_append (Kd.slice 3 (Kd.int .i64)) (w0 := w) w.heap.size rfl (.tmp 62) (.tmp 64) 53 22 (.slice none 0 0) 24 rfl Try.underlying53 info22 rfl (by decide) (by omega) u4 x4_1 x6_2 [.slice Ao38 x6_2.length co38] (fun _ => True) (fun k_ => some k_ = (.slice Ao38 x6_2.length co38 : Value).ownBlock) rfl rfl ?aP (fun k_ hk_ => ((Kd.R_mono (ok' := fun k_ => ((fun _ => True)) k_ ∧ some k_ ≠ (u4 : Value).ownBlock) (Kd.R_apart' (HO_6.out) (Kd.S_typed HO_4.out) (by decide)) (fun k_ hk => ⟨trivial, hk.2⟩))).1 k_ hk_.symm) ?aF ?aO ?aB ?aS ?aL ?_; (case aP => exact Kd.M_row (Kd.R_mono (Kd.R_tight rfl (Kd.R_mono (ok' := fun k_ => ((fun _ => True)) k_ ∧ some k_ ≠ (u4 : Value).ownBlock) (Kd.R_apart' (HO_6.out) (Kd.S_typed HO_4.out) (by decide)) (fun k_ hk => ⟨trivial, hk.2⟩))) (fun _ h_ => h_))); (case aB => exact (by repeat (first | (with_reducible first | exact HB.out | apply below_alloc | apply Zd | apply below_drew1) | exact HB.out))); (case aF => exact (fun _ _ => trivial)); (case aO => exact (by (with_reducible repeat (first | apply Kd.S_alloc | apply Kd.S_drewN | apply Kd.S_drew)); exact Kd.S_mono HO_4.out (fun k_ hk => ⟨trivial, fun e_ => hk e_⟩))); (case aS => exact (below_size (by repeat (first | (with_reducible first | exact HB.out | apply below_alloc | apply Zd | apply below_drew1) | exact HB.out)))); (case aL => have := LMc36.out; omega); intro v350 w37 ho hb hg hat; rw [← Ny349.out] at ho; have n0_ := Zm (Kd.R_over' (by (with_reducible repeat (first | apply Kd.R_alloc | apply Kd.R_drewN | apply Kd.R_drew)); exact HO_3.out) (Kd.S_typed (by (with_reducible repeat (first | apply Kd.S_alloc | apply Kd.S_drewN | apply Kd.S_drew)); exact HO_4.out)) (by decide) hg); have n1_ := Zm (hb); have n2_ := Zm (ho); clear HO_3; clear HB; clear HO_4; clear HO_6; have HO_3 := n0_; have HB := n1_; have HO351 := n2_; clear n0_ n1_ n2_; clear ho hb hg hat))
          repeat (go_quiet (first | ((with_reducible refine gate_builtin (b := .append) (xs := #[.tmp 62, .tmp 64]) rfl ?_); at_builtin; refine Kd.S_append (Kd.slice 3 (Kd.int .i64)) (w0 := w) w.heap.size rfl (.tmp 62) (.tmp 64) 53 22 (.slice none 0 0) 24 rfl Try.underlying53 info22 rfl (by decide) (by omega) u4 x4_1 x6_2 [.slice Ao38 x6_2.length co38] (fun _ => True) (fun k_ => some k_ = (.slice Ao38 x6_2.length co38 : Value).ownBlock) rfl rfl ?aP (fun k_ hk_ => ((Kd.R_mono (ok' := fun k_ => ((fun _ => True)) k_ ∧ some k_ ≠ (u4 : Value).ownBlock) (Kd.R_apart' (HO_6.out) (Kd.S_typed HO_4.out) (by decide)) (fun k_ hk => ⟨trivial, hk.2⟩))).1 k_ hk_.symm) ?aF ?aO ?aB ?aS ?aL ?_; (case aP => exact Kd.M_row (Kd.R_mono (Kd.R_tight rfl (Kd.R_mono (ok' := fun k_ => ((fun _ => True)) k_ ∧ some k_ ≠ (u4 : Value).ownBlock) (Kd.R_apart' (HO_6.out) (Kd.S_typed HO_4.out) (by decide)) (fun k_ hk => ⟨trivial, hk.2⟩))) (fun _ h_ => h_))); (case aB => exact (by repeat (first | (with_reducible first | exact HB.out | apply below_alloc | apply Zd | apply below_drew1) | exact HB.out))); (case aF => exact (fun _ _ => trivial)); (case aO => exact (by (with_reducible repeat (first | apply Kd.S_alloc | apply Kd.S_drewN | apply Kd.S_drew)); exact Kd.S_mono HO_4.out (fun k_ hk => ⟨trivial, fun e_ => hk e_⟩))); (case aS => exact (below_size (by repeat (first | (with_reducible first | exact HB.out | apply below_alloc | apply Zd | apply below_drew1) | exact HB.out)))); (case aL => have := LMc36.out; omega); intro v350 w37 ho hb hg hat; rw [← Ny349.out] at ho; have n0_ := Zm (Kd.R_over' (by (with_reducible repeat (first | apply Kd.R_alloc | apply Kd.R_drewN | apply Kd.R_drew)); exact HO_3.out) (Kd.S_typed (by (with_reducible repeat (first | apply Kd.S_alloc | apply Kd.S_drewN | apply Kd.S_drew)); exact HO_4.out)) (by decide) hg); have n1_ := Zm (hb); have n2_ := Zm (ho); clear HO_3; clear HB; clear HO_4; clear HO_6; have HO_3 := n0_; have HB := n1_; have HO351 := n2_; clear n0_ n1_ n2_; clear ho hb hg hat)); try go_wp2_with (first | ((with_reducible refine gate_builtin (b := .append) (xs := #[.tmp 62, .tmp 64]) rfl ?_); at_builtin; refine Kd.S_append (Kd.slice 3 (Kd.int .i64)) (w0 := w) w.heap.size rfl (.tmp 62) (.tmp 64) 53 22 (.slice none 0 0) 24 rfl Try.underlying53 info22 rfl (by decide) (by omega) u4 x4_1 x6_2 [.slice Ao38 x6_2.length co38] (fun _ => True) (fun k_ => some k_ = (.slice Ao38 x6_2.length co38 : Value).ownBlock) rfl rfl ?aP (fun k_ hk_ => ((Kd.R_mono (ok' := fun k_ => ((fun _ => True)) k_ ∧ some k_ ≠ (u4 : Value).ownBlock) (Kd.R_apart' (HO_6.out) (Kd.S_typed HO_4.out) (by decide)) (fun k_ hk => ⟨trivial, hk.2⟩))).1 k_ hk_.symm) ?aF ?aO ?aB ?aS ?aL ?_; (case aP => exact Kd.M_row (Kd.R_mono (Kd.R_tight rfl (Kd.R_mono (ok' := fun k_ => ((fun _ => True)) k_ ∧ some k_ ≠ (u4 : Value).ownBlock) (Kd.R_apart' (HO_6.out) (Kd.S_typed HO_4.out) (by decide)) (fun k_ hk => ⟨trivial, hk.2⟩))) (fun _ h_ => h_))); (case aB => exact (by repeat (first | (with_reducible first | exact HB.out | apply below_alloc | apply Zd | apply below_drew1) | exact HB.out))); (case aF => exact (fun _ _ => trivial)); (case aO => exact (by (with_reducible repeat (first | apply Kd.S_alloc | apply Kd.S_drewN | apply Kd.S_drew)); exact Kd.S_mono HO_4.out (fun k_ hk => ⟨trivial, fun e_ => hk e_⟩))); (case aS => exact (below_size (by repeat (first | (with_reducible first | exact HB.out | apply below_alloc | apply Zd | apply below_drew1) | exact HB.out)))); (case aL => have := LMc36.out; omega); intro v350 w37 ho hb hg hat; rw [← Ny349.out] at ho; have n0_ := Zm (Kd.R_over' (by (with_reducible repeat (first | apply Kd.R_alloc | apply Kd.R_drewN | apply Kd.R_drew)); exact HO_3.out) (Kd.S_typed (by (with_reducible repeat (first | apply Kd.S_alloc | apply Kd.S_drewN | apply Kd.S_drew)); exact HO_4.out)) (by decide) hg); have n1_ := Zm (hb); have n2_ := Zm (ho); clear HO_3; clear HB; clear HO_4; clear HO_6; have HO_3 := n0_; have HB := n1_; have HO351 := n2_; clear n0_ n1_ n2_; clear ho hb hg hat)))
          go_roundg k2
          case measure => have := HK1.out; have := HK2.out; omega
          case rel => exact ⟨(x3_2), (y349), (wrap64 (x5_1 + 1)), (by first | rfl | (simp; done) | (simp [*]; done)), H', ⟨by have := HK1.out; have := HK2.out; omega⟩, ⟨by (with_reducible repeat (first | apply Kd.R_alloc | apply Kd.R_drewN | apply Kd.R_drew)); first | exact HO_3.out | exact Kd.R_mono HO_3.out (fun _ _ => trivial)⟩, ⟨by (with_reducible repeat (first | apply Kd.S_alloc | apply Kd.S_drewN | apply Kd.S_drew)); exact HO351.out⟩, ⟨by repeat (first | (with_reducible first | exact HB.out | apply below_alloc | apply Zd | apply below_drew1) | exact HB.out)⟩⟩
         ·rw [if_neg c36] at H
          exact absurd H (by simp)
       ·rw [if_neg c4] at H
        exact absurd H (by simp)
      ·rw [if_neg c3] at H
       exact absurd H (by simp)
   ·rw [if_neg c2] at H
    have c2b0 : decide (x5_1 < (l0.length : Int)) = false := decide_eq_false c2
    clear c2
    obtain rfl := Option.some.inj H
    go_wp2
    repeat (go_quiet (fail); try go_wp2)
    go_ret
    exact ⟨_, by first | rfl | (simp [errW_none, errW_some] <;> rfl) | (simp [*, errW_none, errW_some] <;> rfl), by (with_reducible repeat (first | apply Kd.S_alloc | apply Kd.S_drewN | apply Kd.S_drew)); exact HO_4.out, by repeat (first | (with_reducible first | exact HB.out | apply below_alloc | apply Zd | apply below_drew1) | exact HB.out)⟩
end Go.Proofs.Yteafndooaokagaa.PDiff
