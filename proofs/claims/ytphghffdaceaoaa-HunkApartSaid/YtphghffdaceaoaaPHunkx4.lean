/- Laid by a program of this session out of the seat's translation. -/
import Derived.Test.YtphghffdaceaoaaPHunkx0
namespace Go.Proofs.Ytphghffdaceaoaa.PHunk
open Go.RowKit Go.Proofs.YtphghffdaceaoaaW.PrintWords Go.Proofs.YtphghffdaceaoaaW.PrintLast Go.Proofs.YtphghffdaceaoaaW.PrintMore
attribute [local go_sem] max2_int min2_int max_two min_two max_three min_three max_four min_four   -- for this text's walks alone
set_option linter.unusedVariables false
set_option linter.unusedSimpArgs false
/-! ### lcs_left: function 39 -/
mutual
def lcs_left.l0 : Nat → List Int → List Int → List (List Int) → Int → Option ((List (List Int)))
 | 0, _, _, _, _ => none
 | k + 1, x0, x1, x5, x6 => if x6 ≥ 0 then (if 0 ≤ (wrap64 ((x1.length : Int) + 1)) then (if (wrap64 ((x1.length : Int) + 1) : Int).toNat ≤ 70368744177664 then (if 0 ≤ x6 then (if x6 < (x5.length : Int) then (lcs_left.l1 k x0 x1 (x5.set (x6 : Int).toNat (List.replicate (wrap64 ((x1.length : Int) + 1) : Int).toNat 0)) x6 (wrap64 ((x1.length : Int) - 1))) else (none)) else (none)) else (none)) else (none)) else (some x5)
def lcs_left.l1 : Nat → List Int → List Int → List (List Int) → Int → Int → Option ((List (List Int)))
 | 0, _, _, _, _, _ => none
 | k + 1, x0, x1, x5, x6, x7 => if x7 ≥ 0 then (if 0 ≤ x6 then (if x6 < (x0.length : Int) then (if 0 ≤ x7 then (if x7 < (x1.length : Int) then (if (rd x0 x6) = (rd x1 x7) then (if x6 < (x5.length : Int) then (if 0 ≤ (wrap64 (x6 + 1)) then (if (wrap64 (x6 + 1)) < (x5.length : Int) then (if 0 ≤ (wrap64 (x7 + 1)) then (if (wrap64 (x7 + 1)) < ((rd_L9 x5 (wrap64 (x6 + 1))).length : Int) then (if x7 < ((rd_L9 x5 x6).length : Int) then (lcs_left.l1 k x0 x1 (x5.set (x6 : Int).toNat ((rd_L9 x5 x6).set (x7 : Int).toNat (wrap32 ((rd (rd_L9 x5 (wrap64 (x6 + 1))) (wrap64 (x7 + 1))) + 1)))) x6 (wrap64 (x7 - 1))) else (none)) else (none)) else (none)) else (none)) else (none)) else (none)) else (if x6 < (x5.length : Int) then (if 0 ≤ (wrap64 (x6 + 1)) then (if (wrap64 (x6 + 1)) < (x5.length : Int) then (if x7 < ((rd_L9 x5 (wrap64 (x6 + 1))).length : Int) then (if 0 ≤ (wrap64 (x7 + 1)) then (if (wrap64 (x7 + 1)) < ((rd_L9 x5 x6).length : Int) then (if x7 < ((rd_L9 x5 x6).length : Int) then (lcs_left.l1 k x0 x1 (x5.set (x6 : Int).toNat ((rd_L9 x5 x6).set (x7 : Int).toNat (mx (rd (rd_L9 x5 (wrap64 (x6 + 1))) x7) (rd (rd_L9 x5 x6) (wrap64 (x7 + 1)))))) x6 (wrap64 (x7 - 1))) else (none)) else (none)) else (none)) else (none)) else (none)) else (none)) else (none))) else (none)) else (none)) else (none)) else (none)) else (lcs_left.l0 k x0 x1 x5 (wrap64 (x6 - 1)))
end
def lcs_left.f (k : Nat) (l0 : List Int) (l1 : List Int) : Option ((List (List Int))) := if 0 ≤ (wrap64 ((l0.length : Int) + 1)) then (if (wrap64 ((l0.length : Int) + 1) : Int).toNat ≤ 11728124029610 then ((some (List.replicate (wrap64 ((l0.length : Int) + 1) : Int).toNat [] : List (List Int))).bind fun y114 => (if 0 ≤ (wrap64 ((l1.length : Int) + 1)) then (if (wrap64 ((l1.length : Int) + 1) : Int).toNat ≤ 70368744177664 then (if 0 ≤ (l0.length : Int) then (if (l0.length : Int) < (y114.length : Int) then (lcs_left.l0 k l0 l1 (y114.set ((l0.length : Int) : Int).toNat (List.replicate (wrap64 ((l1.length : Int) + 1) : Int).toNat 0)) (wrap64 ((l0.length : Int) - 1))) else (none)) else (none)) else (none)) else (none))) else (none)) else (none)
theorem lcs_left.mono_l : ∀ k, (∀ y0 y1 y2 y3, LeO (lcs_left.l0 k y0 y1 y2 y3) (lcs_left.l0 (k + 1) y0 y1 y2 y3)) ∧ (∀ y0 y1 y2 y3 y4, LeO (lcs_left.l1 k y0 y1 y2 y3 y4) (lcs_left.l1 (k + 1) y0 y1 y2 y3 y4))
 | 0 => ⟨fun _ _ _ _ r h => by simp [lcs_left.l0] at h, fun _ _ _ _ _ r h => by simp [lcs_left.l1] at h⟩
 | k + 1 => by
  obtain ⟨ih0, ih1⟩ := lcs_left.mono_l k
  refine ⟨?_, ?_⟩
  ·intro y0 y1 y2 y3
   unfold lcs_left.l0
   repeat' first
   | (with_reducible exact ih0 _ _ _ _)
   | (with_reducible exact ih1 _ _ _ _ _)
   | (with_reducible exact LeO.refl _)
   | (with_reducible exact LeO.none _)
   | (with_reducible refine LeO.ite ?_ ?_)
   | (with_reducible refine LeO.bind ?_ (fun _ => ?_))
   | exact ih0 _ _ _ _
   | exact ih1 _ _ _ _ _
   | exact LeO.none _
   | refine LeO.ite ?_ ?_
   | refine LeO.bind ?_ (fun _ => ?_)
  ·intro y0 y1 y2 y3 y4
   unfold lcs_left.l1
   repeat' first
   | (with_reducible exact ih0 _ _ _ _)
   | (with_reducible exact ih1 _ _ _ _ _)
   | (with_reducible exact LeO.refl _)
   | (with_reducible exact LeO.none _)
   | (with_reducible refine LeO.ite ?_ ?_)
   | (with_reducible refine LeO.bind ?_ (fun _ => ?_))
   | exact ih0 _ _ _ _
   | exact ih1 _ _ _ _ _
   | exact LeO.none _
   | refine LeO.ite ?_ ?_
   | refine LeO.bind ?_ (fun _ => ?_)
theorem lcs_left.mono : ∀ a0 a1 k, LeO (lcs_left.f k a0 a1) (lcs_left.f (k + 1) a0 a1) := by
 intro a0 a1 k
 obtain ⟨ih0, ih1⟩ := lcs_left.mono_l k
 unfold lcs_left.f
 repeat' first
   | (with_reducible exact ih0 _ _ _ _)
   | (with_reducible exact ih1 _ _ _ _ _)
   | (with_reducible exact LeO.refl _)
   | (with_reducible exact LeO.none _)
   | (with_reducible refine LeO.ite ?_ ?_)
   | (with_reducible refine LeO.bind ?_ (fun _ => ?_))
   | exact ih0 _ _ _ _
   | exact ih1 _ _ _ _ _
   | exact LeO.none _
   | refine LeO.ite ?_ ?_
   | refine LeO.bind ?_ (fun _ => ?_)
def lcs_left.T10 : Bool × List (List Nat × List Nat) := (true, [([], []), ([], []), ([0, 1], [0, 1]), ([2], [2]), ([], []), ([], []), ([4, 5], [4, 5]), ([6], [6]), ([3, 7], [3, 7])])
def lcs_left.B10 : List Nat := [0, 0, 3, 7, 0, 0, 48, 112, 255]
theorem lcs_left.tab10 : rtab .any (opsOf Try.f39 10) = lcs_left.T10 := by kernel_rfl
theorem lcs_left.bits10 : waitsOk lcs_left.T10.2 lcs_left.B10 = true := by kernel_rfl
def lcs_left.T11 : Bool × List (List Nat × List Nat) := (true, [([], []), ([], []), ([0, 1], [0, 1]), ([2], [2]), ([], []), ([], []), ([], []), ([6], [6]), ([5, 7], [5, 7]), ([8], [8]), ([], []), ([10], [10]), ([9, 11], [9, 11]), ([12], [12]), ([13], [13]), ([3, 4, 0, 1, 2, 3, 4, 5, 6, 7, 8, 9, 10, 11, 12, 13, 14], [3, 4]), ([15, 14, 0, 1, 2, 3, 4, 5, 6, 7, 8, 9, 10, 11, 12, 13, 14], [14, 15])])
def lcs_left.B11 : List Nat := [0, 0, 3, 7, 0, 0, 0, 64, 224, 480, 0, 1024, 4064, 8160, 16352, 32767, 65535]
theorem lcs_left.tab11 : rtab .any (opsOf Try.f39 11) = lcs_left.T11 := by kernel_rfl
theorem lcs_left.bits11 : waitsOk lcs_left.T11.2 lcs_left.B11 = true := by kernel_rfl
def lcs_left.T12 : Bool × List (List Nat × List Nat) := (true, [([], []), ([], []), ([0, 1], [0, 1]), ([2], [2]), ([], []), ([], []), ([], []), ([6], [6]), ([5, 7], [5, 7]), ([8], [8]), ([], []), ([9, 10], [9, 10]), ([11], [11]), ([], []), ([], []), ([13, 14], [13, 14]), ([15], [15]), ([], []), ([17], [17]), ([16, 18], [16, 18]), ([19], [19]), ([12, 20], [12, 20]), ([3, 4, 0, 1, 2, 3, 4, 5, 6, 7, 8, 9, 10, 11, 12, 13, 14, 15, 16, 17, 18, 19, 20, 21], [3, 4]), ([22, 21, 0, 1, 2, 3, 4, 5, 6, 7, 8, 9, 10, 11, 12, 13, 14, 15, 16, 17, 18, 19, 20, 21], [21, 22])])
def lcs_left.B12 : List Nat := [0, 0, 3, 7, 0, 0, 0, 64, 224, 480, 0, 2016, 4064, 0, 0, 24576, 57344, 0, 131072, 516096, 1040384, 2097120, 4194303, 8388607]
theorem lcs_left.tab12 : rtab .any (opsOf Try.f39 12) = lcs_left.T12 := by kernel_rfl
theorem lcs_left.bits12 : waitsOk lcs_left.T12.2 lcs_left.B12 = true := by kernel_rfl
set_option maxHeartbeats 8000000 in
set_option maxRecDepth 100000 in
theorem lcs_left.calls (k : Nat) (A0 : Option Addr) (c0 : Nat) (l0 : List Int) (A1 : Option Addr) (c1 : Nat) (l1 : List Int) (r : List (List Int)) (w : World) (hr0 : Kd.C (Kd.int .i64) w A0 l0.length l0) (hc0 : l0.length ≤ c0) (hr1 : Kd.C (Kd.int .i64) w A1 l1.length l1) (hc1 : l1.length ≤ c1) (h : lcs_left.f k l0 l1 = some r) :
  Calls Try.prog 39 #[.slice A0 l0.length c0, .slice A1 l1.length c1] w fun e w' => ∃ v0_ : Value, e = .returned (v0_) ∧ Kd.S (Kd.slice 21 (Kd.int .i32)) 67 w' w.heap.size (fun _ => True) v0_ r ∧ Below w.heap.size w w' := by
 have HR0 := Zm hr0
 have HC0 := Zm hc0
 clear hr0 hc0
 have HR1 := Zm hr1
 have HC1 := Zm hc1
 clear hr1 hc1
 have HB := Zm (Below.refl w.heap.size w)
 have H : (if 0 ≤ (wrap64 ((l0.length : Int) + 1)) then (if (wrap64 ((l0.length : Int) + 1) : Int).toNat ≤ 11728124029610 then ((some (List.replicate (wrap64 ((l0.length : Int) + 1) : Int).toNat [] : List (List Int))).bind fun y114 => (if 0 ≤ (wrap64 ((l1.length : Int) + 1)) then (if (wrap64 ((l1.length : Int) + 1) : Int).toNat ≤ 70368744177664 then (if 0 ≤ (l0.length : Int) then (if (l0.length : Int) < (y114.length : Int) then (lcs_left.l0 k l0 l1 (y114.set ((l0.length : Int) : Int).toNat (List.replicate (wrap64 ((l1.length : Int) + 1) : Int).toNat 0)) (wrap64 ((l0.length : Int) - 1))) else (none)) else (none)) else (none)) else (none))) else (none)) else (none)) = some r := h
 clear h
 obtain ⟨ji3, hji3⟩ : ∃ j_ : Int, (wrap64 ((l0.length : Int) + 1)) = j_ := ⟨_, rfl⟩
 replace H : (if 0 ≤ (ji3) then (if (ji3 : Int).toNat ≤ 11728124029610 then ((some (List.replicate (ji3 : Int).toNat [] : List (List Int))).bind fun y114 => (if 0 ≤ (wrap64 ((l1.length : Int) + 1)) then (if (wrap64 ((l1.length : Int) + 1) : Int).toNat ≤ 70368744177664 then (if 0 ≤ (l0.length : Int) then (if (l0.length : Int) < (y114.length : Int) then (lcs_left.l0 k l0 l1 (y114.set ((l0.length : Int) : Int).toNat (List.replicate (wrap64 ((l1.length : Int) + 1) : Int).toNat 0)) (wrap64 ((l0.length : Int) - 1))) else (none)) else (none)) else (none)) else (none))) else (none)) else (none)) = some r := by first | (rw [hji3] at H; exact H) | (simp only [hji3] at H ⊢; exact H)
 have hji3w : (IntKind.i64.wrap ((l0.length : Int) + 1)) = ji3 := (i64_w _).trans hji3
 by_cases c4 : 0 ≤ (ji3)
 ·rw [if_pos c4] at H
  have c4b0 := eq_true c4
  have c4b1 : decide (0 ≤ (ji3)) = true := decide_eq_true c4
  clear c4
  by_cases c5 : (ji3 : Int).toNat ≤ 11728124029610
  ·rw [if_pos c5] at H
   have c5b0 := eq_true c5
   have c5b1 : decide ((ji3 : Int).toNat ≤ 11728124029610) = true := decide_eq_true c5
   clear c5
   obtain ⟨y114, hy114⟩ : ∃ y_ : List (List Int), y_ = (List.replicate (ji3 : Int).toNat []) := ⟨_, rfl⟩
   replace H : (if 0 ≤ (wrap64 ((l1.length : Int) + 1)) then (if (wrap64 ((l1.length : Int) + 1) : Int).toNat ≤ 70368744177664 then (if 0 ≤ (l0.length : Int) then (if (l0.length : Int) < (y114.length : Int) then (lcs_left.l0 k l0 l1 (y114.set ((l0.length : Int) : Int).toNat (List.replicate (wrap64 ((l1.length : Int) + 1) : Int).toNat 0)) (wrap64 ((l0.length : Int) - 1))) else (none)) else (none)) else (none)) else (none)) = some r := by first | (rw [hy114]; with_reducible exact H) | (have H2_ := (Option.bind_some _ _).symm.trans H; rw [hy114]; with_reducible exact H2_) | (have H2_ := (Option.bind_some _ _).symm.trans H; with_reducible exact H2_) | with_reducible exact H | (rw [hy114]; exact H) | exact H
   have Ny114 := Zm hy114
   clear hy114
   obtain ⟨ji6, hji6⟩ : ∃ j_ : Int, (wrap64 ((l1.length : Int) + 1)) = j_ := ⟨_, rfl⟩
   replace H : (if 0 ≤ (ji6) then (if (ji6 : Int).toNat ≤ 70368744177664 then (if 0 ≤ (l0.length : Int) then (if (l0.length : Int) < (y114.length : Int) then (lcs_left.l0 k l0 l1 (y114.set ((l0.length : Int) : Int).toNat (List.replicate (ji6 : Int).toNat 0)) (wrap64 ((l0.length : Int) - 1))) else (none)) else (none)) else (none)) else (none)) = some r := by first | (rw [hji6] at H; exact H) | (simp only [hji6] at H ⊢; exact H)
   have hji6w : (IntKind.i64.wrap ((l1.length : Int) + 1)) = ji6 := (i64_w _).trans hji6
   by_cases c7 : 0 ≤ (ji6)
   ·rw [if_pos c7] at H
    have c7b0 := eq_true c7
    have c7b1 : decide (0 ≤ (ji6)) = true := decide_eq_true c7
    clear c7
    by_cases c8 : (ji6 : Int).toNat ≤ 70368744177664
    ·rw [if_pos c8] at H
     have c8b0 := eq_true c8
     have c8b1 : decide ((ji6 : Int).toNat ≤ 70368744177664) = true := decide_eq_true c8
     clear c8
     obtain ⟨y117, hy117⟩ : ∃ y_ : List Int, y_ = (List.replicate (ji6 : Int).toNat 0) := ⟨_, rfl⟩
     replace H : (if 0 ≤ (l0.length : Int) then (if (l0.length : Int) < (y114.length : Int) then (lcs_left.l0 k l0 l1 (y114.set ((l0.length : Int) : Int).toNat y117) (wrap64 ((l0.length : Int) - 1))) else (none)) else (none)) = some r := by first | (rw [hy117]; with_reducible exact H) | (have H2_ := (Option.bind_some _ _).symm.trans H; rw [hy117]; with_reducible exact H2_) | (have H2_ := (Option.bind_some _ _).symm.trans H; with_reducible exact H2_) | with_reducible exact H | (rw [hy117]; exact H) | exact H
     have Ny117 := Zm hy117
     clear hy117
     by_cases c9 : 0 ≤ (l0.length : Int)
     ·rw [if_pos c9] at H
      have c9b0 : decide (0 ≤ (l0.length : Int)) = true := decide_eq_true c9
      have c9b1 : decide (0 ≤ l0.length) = true := decide_eq_true (by omega)
      clear c9
      by_cases c10 : (l0.length : Int) < (y114.length : Int)
      ·rw [if_pos c10] at H
       have c10b0 : decide ((l0.length : Int) < (y114.length : Int)) = true := decide_eq_true c10
       have c10b1 : decide (l0.length < y114.length) = true := decide_eq_true (Int.ofNat_lt.mp c10)
       clear c10
       obtain ⟨y120, hy120⟩ : ∃ y_ : List (List Int), y_ = (y114.set ((l0.length : Int) : Int).toNat y117) := ⟨_, rfl⟩
       replace H : (lcs_left.l0 k l0 l1 y120 (wrap64 ((l0.length : Int) - 1))) = some r := by first | (rw [hy120]; with_reducible exact H) | (have H2_ := (Option.bind_some _ _).symm.trans H; rw [hy120]; with_reducible exact H2_) | (have H2_ := (Option.bind_some _ _).symm.trans H; with_reducible exact H2_) | with_reducible exact H | (rw [hy120]; exact H) | exact H
       have Ny120 := Zm hy120
       clear hy120
       have H' := Zm H
       clear H
       go_enter Try.func39, Try.ntmps39
       go_wp2_with (first | ((with_reducible refine gate_dst (N := 11) rfl ?_); refine Kd.S_make (Kd.slice 21 (Kd.int .i32)) _ 67 rfl (N := 11) rfl 65 _ _ rfl ji3 rfl rfl Try.underlying65 (.slice none 0 0) 24 info67 rfl (by decide) (by omega) [] (ok := fun _ => True) (okp := fun _ => True) ⟨_, rfl, Kd.R_nil _ _ _ _ _⟩ (fun _ hk => hk) trivial (Zo (by first | (with_reducible assumption) | assumption)) (Nat.le_trans (Nat.mul_le_mul_right _ (Zo (by first | (with_reducible assumption) | assumption) : ji3.toNat ≤ 11728124029610)) (by omega)) (Below.refl _ _) (Nat.le_refl _) ?_; intro v115 w12 ho13 hb hg_ hnew_; clear hg_ hnew_; (first | rw [← Ny114.out] at ho13 | (simp only [Int.reduceToNat] at ho13; rw [← Ny114.out] at ho13)); have n0_ := Zm (Kd.S_lower ho13 (below_size (by repeat (first | (with_reducible first | exact HB.out | apply below_alloc | apply Zd | apply below_drew1) | exact HB.out)))); have n1_ := Zm (below_step (by repeat (first | (with_reducible first | exact HB.out | apply below_alloc | apply Zd | apply below_drew1) | exact HB.out)) hb); clear HB; have HO116 := n0_; have HB := n1_; clear n0_ n1_; clear hb ho13) | ((with_reducible refine gate_dst (N := 18) rfl ?_); refine Kd.R_make (Kd.int .i32) _ 21 rfl (N := 18) rfl 67 _ _ rfl ji6 rfl rfl Try.underlying67 (.int .i32 0) 4 info21 rfl (by decide) (by omega) 0 (ok := fun _ => True) (okp := fun _ => True) rfl (fun _ hk => hk) trivial (Zo (by first | (with_reducible assumption) | assumption)) (Nat.le_trans (Nat.mul_le_mul_right _ (Zo (by first | (with_reducible assumption) | assumption) : ji6.toNat ≤ 70368744177664)) (by omega)) (Below.refl _ _) (Nat.le_refl _) ?_; intro v118 w14 ho15 hb hg_ hnew_; clear hg_ hnew_; (first | rw [← Ny117.out] at ho15 | (simp only [Int.reduceToNat] at ho15; rw [← Ny117.out] at ho15)); have n0_ := Zm (Kd.S_elder' (by (with_reducible repeat (first | apply Kd.S_alloc | apply Kd.S_drewN | apply Kd.S_drew)); exact HO116.out) (Kd.R_base ho15) hb); have n1_ := Zm (Kd.R_lower ho15 (below_size (by repeat (first | (with_reducible first | exact HB.out | apply below_alloc | apply Zd | apply below_drew1) | exact HB.out)))); have n2_ := Zm (below_step (by repeat (first | (with_reducible first | exact HB.out | apply below_alloc | apply Zd | apply below_drew1) | exact HB.out)) hb); clear HO116; clear HB; have HO116 := n0_; have HO119 := n1_; have HB := n2_; clear n0_ n1_ n2_; clear hb ho15; have p11 : 0 ≤ ((l0.length : Int) : Int) := Zo (by first | (with_reducible assumption) | assumption); have q11 : ((l0.length : Int) : Int) < ((y114.length : Int) : Int) := Zo (by first | (with_reducible assumption) | assumption); obtain ⟨go11, co11, eo11, gb11, gl11, cl11, HG11⟩ := Kd.S_form HO116.out (by omega); (first | cases eo11 | (injection eo11 with ea_ en_ ec_; (first | subst ea_ | (injection ea_ with ea_; subst ea_)); subst ec_; clear en_)); have GB11 := Zm gb11; have GG11 := Zm HG11; clear gb11 gl11 HG11; obtain ⟨_, ce11, hcl11, hM11, hcc11, hfr11, _, _⟩ := Kd.S_elem HO116.out [] ((l0.length : Int) : Int) p11 q11; obtain ⟨ve11_0, rfl, ge11_0⟩ := hM11; have hx11_0 := hcc11 0 _ rfl; have hf11_0 := hfr11 0; (try simp only [show ((Kd.slice 21 (Kd.int .i32))).sz = 1 from rfl, Nat.mul_one, Nat.add_zero] at hx11_0); (try simp only [show ((Kd.slice 21 (Kd.int .i32))).sz = 1 from rfl, Nat.mul_one, Nat.add_zero] at hf11_0); clear hcl11 hcc11 hfr11; (try clear hM11); replace p11 := eq_true p11; replace q11 := eq_true q11; have n_ := Zm (Kd.S_mono (ok' := (fun k_ => some k_ ≠ (v118 : Value).ownBlock)) HO116.out (fun k_ hk => hk.2)); clear HO116; have HO116 := n_; clear n_; have HX16 := Zm (show Kd.S (Kd.slice 21 (Kd.int .i32)) 67 w14 w.heap.size (fun k_ => ((fun _ => True)) k_ ∧ ¬ ((fun k_ => some k_ = (v118 : Value).ownBlock)) k_) (.slice (some ⟨go11, 0, none⟩) y114.length co11) y114 from (by (with_reducible repeat (first | apply Kd.S_alloc | apply Kd.S_drewN | apply Kd.S_drew)); exact Kd.S_mono HO116.out (fun k_ hk => ⟨trivial, fun e_ => hk e_⟩))); obtain ⟨oki16, ce16, hcl16, hM16, hcc16, hfr16, hoki16, hH16⟩ := Kd.S_elem HX16.out [] ((l0.length : Int) : Int) (Zo (by first | (with_reducible assumption) | assumption)) (by have h_ : ((l0.length : Int) : Int) < ((y114.length : Int) : Int) := Zo (by first | (with_reducible assumption) | assumption); first | exact h_ | (have e_ := (Kd.S_reads' HO116.out).1; omega) | simpa using h_); obtain ⟨ve16_0, rfl, ge16_0⟩ := hM16; have HP16 := Kd.S_seg hH16 (Zo (by first | (with_reducible assumption) | assumption)) (by have h_ : ((l0.length : Int) : Int) < ((y114.length : Int) : Int) := Zo (by first | (with_reducible assumption) | assumption); first | exact h_ | (have e_ := (Kd.S_reads' HO116.out).1; omega) | simpa using h_) (seg := [v118]) (j := 0) (show 1 ≤ 1 from by decide) (x' := y117) (Kd.M_row (Kd.R_mono (Kd.R_tight rfl (Kd.R_mono (ok' := fun k_ => ((fun _ => True)) k_ ∧ k_ ≠ go11) (Kd.R_apart' (HO119.out) (Kd.S_typed HO116.out) (by decide)) (fun k_ hk => ⟨trivial, fun e_ => (hk.2) (by rw [e_]; rfl)⟩))) (fun _ h_ => Or.inr (h_)))) (fun _ hk => hk) (fun k_ hk_ => ((Kd.R_mono (ok' := fun k_ => ((fun _ => True)) k_ ∧ k_ ≠ go11) (Kd.R_apart' (HO119.out) (Kd.S_typed HO116.out) (by decide)) (fun k_ hk => ⟨trivial, fun e_ => (hk.2) (by rw [e_]; rfl)⟩))).1 k_ hk_.symm); have hx16_0 := hcc16 0 _ rfl; (try simp only [show ((Kd.slice 21 (Kd.int .i32))).sz = 1 from rfl, Nat.mul_one, Nat.add_zero] at hx16_0); have hf16_0 := hfr16 0; (try simp only [show ((Kd.slice 21 (Kd.int .i32))).sz = 1 from rfl, Nat.mul_one, Nat.add_zero] at hf16_0); clear hcl16 hcc16 hfr16 hoki16 hH16; (try clear hM16); (try simp only [show ((Kd.slice 21 (Kd.int .i32))).sz = 1 from rfl, Nat.mul_one, Nat.add_zero] at HP16)) | ((with_reducible refine gate_store (t := 67) (p := 19) rfl ?_); refine store_event (t := 67) (p := 19) (v := ?vo_w17) (w1 := (w14.setCell ⟨go11, ((l0.length : Int) : Int).toNat, none⟩ (v118))) ?hg ?ho ?hn ?hr ?_; (case ho => rfl); (case hg => rfl); (case hn => rfl); (case hr => first | (go_simp; done) | (go_simp; rfl) | (obtain ⟨A_, c_, e_⟩ := Kd.R_slice HO119.out; (try simp only [Int.toNat_natCast] at hx11_0 hf11_0); (try simp only [Int.toNat_natCast] at hx16_0 hf16_0); first | (go_simp; done) | (go_simp; rfl))); intro w17 hw; have hg : w14.grownBy w17 (some go11) := (by rw [hw]; exact HP16.2); have hp_ : Kd.S (Kd.slice 21 (Kd.int .i32)) 67 w17 w.heap.size (fun _ => True) (.slice (some ⟨go11, 0, none⟩) y114.length co11) y120 := (by rw [hw, Ny120.out]; exact HP16.1); clear HP16; have n0_ := Zm (hp_); have n1_ := Zm ((by rw [hw]; exact below_set (HB.out) GB11.out : Below w.heap.size w w17)); clear HO116; clear HB; clear HO119; have HO116 := n0_; have HB := n1_; clear n0_ n1_; clear hg hw hp_))
       go_loopg [6] k (fun kq v6 w' => ∃ (x5_1 : List (List Int)) (x6_1 : Int), v6 = .int .i64 x6_1 ∧ Aside0 (lcs_left.l0 kq l0 l1 x5_1 x6_1 = some r) ∧ Aside0 (kq ≤ k) ∧ Aside0 (Kd.S (Kd.slice 21 (Kd.int .i32)) 67 w' w.heap.size (fun _ => True) (.slice (some ⟨go11, 0, none⟩) y114.length co11) x5_1) ∧ Aside0 (Below w.heap.size w w'))
       case atStart => exact ⟨(y120), (wrap64 ((l0.length : Int) - 1)), (by first | rfl | (simp; done) | (simp [*]; done)), H', ⟨Nat.le_refl _⟩, ⟨by (with_reducible repeat (first | apply Kd.S_alloc | apply Kd.S_drewN | apply Kd.S_drew)); exact HO116.out⟩, ⟨by repeat (first | (with_reducible first | exact HB.out | apply below_alloc | apply Zd | apply below_drew1) | exact HB.out)⟩⟩
       case round =>
        clear H'
        try clear c1
        try clear p1
        try clear q1
        try clear hx1
        try clear p2
        try clear c3
        try clear c4
        try clear c4b0
        try clear c4b1
        try clear c5
        try clear c5b0
        try clear c5b1
        try clear p6
        try clear c7
        try clear c7b0
        try clear c7b1
        try clear c8
        try clear c8b0
        try clear c8b1
        try clear c9
        try clear c9b0
        try clear c9b1
        try clear c10
        try clear c10b0
        try clear c10b1
        try clear c11
        try clear p11
        try clear q11
        try clear hx11
        try clear hf11
        try clear c16
        try clear hx16
        try clear hf16
        try clear hx11_0
        try clear hx16_0
        try clear p11
        try clear q11
        obtain ⟨x5_1, x6_1, rfl, HA, HK1, HO_5, HB⟩ := hrel
        have hl5_1 := (Kd.S_reads' HO_5.out).1
        rw [hl5_1] at HO_5
        (try simp only [hl5_1])
        cases gk with
        | zero => exact absurd HA.out (by simp [lcs_left.l0])
        | succ k1 =>
         have H := HA.out
         clear HA
         simp only [lcs_left.l0] at H
         by_cases c18 : x6_1 ≥ 0
         ·rw [if_pos c18] at H
          have c18b0 : decide (0 ≤ x6_1) = true := decide_eq_true c18
          clear c18
          (try clear hji6w); (try clear hji6_); (try clear hji6n_); (try clear hji6)
          obtain ⟨ji19, hji19⟩ : ∃ j_ : Int, (wrap64 ((l1.length : Int) + 1)) = j_ := ⟨_, rfl⟩
          replace H : (if 0 ≤ (ji19) then (if (ji19 : Int).toNat ≤ 70368744177664 then (if 0 ≤ x6_1 then (if x6_1 < (x5_1.length : Int) then (lcs_left.l1 k1 l0 l1 (x5_1.set (x6_1 : Int).toNat (List.replicate (ji19 : Int).toNat 0)) x6_1 (wrap64 ((l1.length : Int) - 1))) else (none)) else (none)) else (none)) else (none)) = some r := by first | (rw [hji19] at H; exact H) | (simp only [hji19] at H ⊢; exact H)
          have hji19w : (IntKind.i64.wrap ((l1.length : Int) + 1)) = ji19 := (i64_w _).trans hji19
          by_cases c20 : 0 ≤ (ji19)
          ·rw [if_pos c20] at H
           have c20b0 := eq_true c20
           have c20b1 : decide (0 ≤ (ji19)) = true := decide_eq_true c20
           clear c20
           by_cases c21 : (ji19 : Int).toNat ≤ 70368744177664
           ·rw [if_pos c21] at H
            have c21b0 := eq_true c21
            have c21b1 : decide ((ji19 : Int).toNat ≤ 70368744177664) = true := decide_eq_true c21
            clear c21
            obtain ⟨y121, hy121⟩ : ∃ y_ : List Int, y_ = (List.replicate (ji19 : Int).toNat 0) := ⟨_, rfl⟩
            replace H : (if 0 ≤ x6_1 then (if x6_1 < (x5_1.length : Int) then (lcs_left.l1 k1 l0 l1 (x5_1.set (x6_1 : Int).toNat y121) x6_1 (wrap64 ((l1.length : Int) - 1))) else (none)) else (none)) = some r := by first | (rw [hy121]; with_reducible exact H) | (have H2_ := (Option.bind_some _ _).symm.trans H; rw [hy121]; with_reducible exact H2_) | (have H2_ := (Option.bind_some _ _).symm.trans H; with_reducible exact H2_) | with_reducible exact H | (rw [hy121]; exact H) | exact H
            have Ny121 := Zm hy121
            clear hy121
            by_cases c22 : 0 ≤ x6_1
            ·rw [if_pos c22] at H
             have c22b0 : decide (0 ≤ x6_1) = true := decide_eq_true c22
             clear c22
             by_cases c23 : x6_1 < (x5_1.length : Int)
             ·rw [if_pos c23] at H
              have c23b0 : decide (x6_1 < (x5_1.length : Int)) = true := decide_eq_true c23
              clear c23
              obtain ⟨y124, hy124⟩ : ∃ y_ : List (List Int), y_ = (x5_1.set (x6_1 : Int).toNat y121) := ⟨_, rfl⟩
              replace H : (lcs_left.l1 k1 l0 l1 y124 x6_1 (wrap64 ((l1.length : Int) - 1))) = some r := by first | (rw [hy124]; with_reducible exact H) | (have H2_ := (Option.bind_some _ _).symm.trans H; rw [hy124]; with_reducible exact H2_) | (have H2_ := (Option.bind_some _ _).symm.trans H; with_reducible exact H2_) | with_reducible exact H | (rw [hy124]; exact H) | exact H
              have Ny124 := Zm hy124
              clear hy124
              have H' := Zm H
              clear H
              go_wp2_with (first | ((with_reducible refine gate_dst (N := 32) rfl ?_); refine Kd.R_make (Kd.int .i32) _ 21 rfl (N := 32) rfl 67 _ _ rfl ji19 rfl rfl Try.underlying67 (.int .i32 0) 4 info21 rfl (by decide) (by omega) 0 (ok := fun _ => True) (okp := fun _ => True) rfl (fun _ hk => hk) trivial (Zo (by first | (with_reducible assumption) | assumption)) (Nat.le_trans (Nat.mul_le_mul_right _ (Zo (by first | (with_reducible assumption) | assumption) : ji19.toNat ≤ 70368744177664)) (by omega)) (Below.refl _ _) (Nat.le_refl _) ?_; intro v122 w25 ho26 hb hg_ hnew_; clear hg_ hnew_; (first | rw [← Ny121.out] at ho26 | (simp only [Int.reduceToNat] at ho26; rw [← Ny121.out] at ho26)); have n0_ := Zm (Kd.S_elder' (by (with_reducible repeat (first | apply Kd.S_alloc | apply Kd.S_drewN | apply Kd.S_drew)); exact HO_5.out) (Kd.R_base ho26) hb); have n1_ := Zm (Kd.R_lower ho26 (below_size (by repeat (first | (with_reducible first | exact HB.out | apply below_alloc | apply Zd | apply below_drew1) | exact HB.out)))); have n2_ := Zm (below_step (by repeat (first | (with_reducible first | exact HB.out | apply below_alloc | apply Zd | apply below_drew1) | exact HB.out)) hb); clear HO_5; clear HB; have HO_5 := n0_; have HO123 := n1_; have HB := n2_; clear n0_ n1_ n2_; clear hb ho26; have p24 : 0 ≤ (x6_1 : Int) := Zo (by first | (with_reducible assumption) | assumption); have q24 : (x6_1 : Int) < ((x5_1.length : Int) : Int) := Zo (by first | (with_reducible assumption) | assumption); obtain ⟨_, ce24, hcl24, hM24, hcc24, hfr24, _, _⟩ := Kd.S_elem HO_5.out [] (x6_1 : Int) p24 q24; obtain ⟨ve24_0, rfl, ge24_0⟩ := hM24; have hx24_0 := hcc24 0 _ rfl; have hf24_0 := hfr24 0; (try simp only [show ((Kd.slice 21 (Kd.int .i32))).sz = 1 from rfl, Nat.mul_one, Nat.add_zero] at hx24_0); (try simp only [show ((Kd.slice 21 (Kd.int .i32))).sz = 1 from rfl, Nat.mul_one, Nat.add_zero] at hf24_0); clear hcl24 hcc24 hfr24; (try clear hM24); replace p24 := eq_true p24; replace q24 := eq_true q24; have n_ := Zm (Kd.S_mono (ok' := (fun k_ => some k_ ≠ (v122 : Value).ownBlock)) HO_5.out (fun k_ hk => hk.2)); clear HO_5; have HO_5 := n_; clear n_; have HX27 := Zm (show Kd.S (Kd.slice 21 (Kd.int .i32)) 67 w25 w.heap.size (fun k_ => ((fun _ => True)) k_ ∧ ¬ ((fun k_ => some k_ = (v122 : Value).ownBlock)) k_) (.slice (some ⟨go11, 0, none⟩) x5_1.length co11) x5_1 from (by (with_reducible repeat (first | apply Kd.S_alloc | apply Kd.S_drewN | apply Kd.S_drew)); exact Kd.S_mono HO_5.out (fun k_ hk => ⟨trivial, fun e_ => hk e_⟩))); obtain ⟨oki27, ce27, hcl27, hM27, hcc27, hfr27, hoki27, hH27⟩ := Kd.S_elem HX27.out [] (x6_1 : Int) (Zo (by first | (with_reducible assumption) | assumption)) (by have h_ : (x6_1 : Int) < ((x5_1.length : Int) : Int) := Zo (by first | (with_reducible assumption) | assumption); first | exact h_ | (have e_ := (Kd.S_reads' HO_5.out).1; omega) | simpa using h_); obtain ⟨ve27_0, rfl, ge27_0⟩ := hM27; have HP27 := Kd.S_seg hH27 (Zo (by first | (with_reducible assumption) | assumption)) (by have h_ : (x6_1 : Int) < ((x5_1.length : Int) : Int) := Zo (by first | (with_reducible assumption) | assumption); first | exact h_ | (have e_ := (Kd.S_reads' HO_5.out).1; omega) | simpa using h_) (seg := [v122]) (j := 0) (show 1 ≤ 1 from by decide) (x' := y121) (Kd.M_row (Kd.R_mono (Kd.R_tight rfl (Kd.R_mono (ok' := fun k_ => ((fun _ => True)) k_ ∧ k_ ≠ go11) (Kd.R_apart' (HO123.out) (Kd.S_typed HO_5.out) (by decide)) (fun k_ hk => ⟨trivial, fun e_ => (hk.2) (by rw [e_]; rfl)⟩))) (fun _ h_ => Or.inr (h_)))) (fun _ hk => hk) (fun k_ hk_ => ((Kd.R_mono (ok' := fun k_ => ((fun _ => True)) k_ ∧ k_ ≠ go11) (Kd.R_apart' (HO123.out) (Kd.S_typed HO_5.out) (by decide)) (fun k_ hk => ⟨trivial, fun e_ => (hk.2) (by rw [e_]; rfl)⟩))).1 k_ hk_.symm); have hx27_0 := hcc27 0 _ rfl; (try simp only [show ((Kd.slice 21 (Kd.int .i32))).sz = 1 from rfl, Nat.mul_one, Nat.add_zero] at hx27_0); have hf27_0 := hfr27 0; (try simp only [show ((Kd.slice 21 (Kd.int .i32))).sz = 1 from rfl, Nat.mul_one, Nat.add_zero] at hf27_0); clear hcl27 hcc27 hfr27 hoki27 hH27; (try clear hM27); (try simp only [show ((Kd.slice 21 (Kd.int .i32))).sz = 1 from rfl, Nat.mul_one, Nat.add_zero] at HP27)) | ((with_reducible refine gate_store (t := 67) (p := 33) rfl ?_); refine store_event (t := 67) (p := 33) (v := ?vo_w28) (w1 := (w25.setCell ⟨go11, (x6_1 : Int).toNat, none⟩ (v122))) ?hg ?ho ?hn ?hr ?_; (case ho => rfl); (case hg => rfl); (case hn => rfl); (case hr => first | (go_simp; done) | (go_simp; rfl) | (obtain ⟨A_, c_, e_⟩ := Kd.R_slice HO123.out; (try simp only [Int.toNat_natCast] at hx24_0 hf24_0); (try simp only [Int.toNat_natCast] at hx27_0 hf27_0); first | (go_simp; done) | (go_simp; rfl))); intro w28 hw; have hg : w25.grownBy w28 (some go11) := (by rw [hw]; exact HP27.2); have hp_ : Kd.S (Kd.slice 21 (Kd.int .i32)) 67 w28 w.heap.size (fun _ => True) (.slice (some ⟨go11, 0, none⟩) x5_1.length co11) y124 := (by rw [hw, Ny124.out]; exact HP27.1); clear HP27; have n0_ := Zm (hp_); have n1_ := Zm ((by rw [hw]; exact below_set (HB.out) GB11.out : Below w.heap.size w w28)); clear HO_5; clear HB; clear HO123; have HO_5 := n0_; have HB := n1_; clear n0_ n1_; clear hg hw hp_))
              go_loopg [7] k1 (fun kq v7 w' => ∃ (x5_2 : List (List Int)) (x7_2 : Int), v7 = .int .i64 x7_2 ∧ Aside0 (lcs_left.l1 kq l0 l1 x5_2 x6_1 x7_2 = some r) ∧ Aside0 (kq ≤ k1) ∧ Aside0 (Kd.S (Kd.slice 21 (Kd.int .i32)) 67 w' w.heap.size (fun _ => True) (.slice (some ⟨go11, 0, none⟩) x5_1.length co11) x5_2) ∧ Aside0 (Below w.heap.size w w'))
              case atStart => exact ⟨(y124), (wrap64 ((l1.length : Int) - 1)), (by first | rfl | (simp; done) | (simp [*]; done)), H', ⟨Nat.le_refl _⟩, ⟨by (try simp only [hl5_1]); (with_reducible repeat (first | apply Kd.S_alloc | apply Kd.S_drewN | apply Kd.S_drew)); exact HO_5.out⟩, ⟨by repeat (first | (with_reducible first | exact HB.out | apply below_alloc | apply Zd | apply below_drew1) | exact HB.out)⟩⟩
              case round =>
               clear H'
               try clear c1
               try clear p1
               try clear q1
               try clear hx1
               try clear c2
               try clear p2
               try clear q2
               try clear hx2
               try clear hf2
               try clear c3
               try clear c4
               try clear c4b0
               try clear c4b1
               try clear c5
               try clear c5b0
               try clear c5b1
               try clear p6
               try clear c7
               try clear c7b0
               try clear c7b1
               try clear c8
               try clear c8b0
               try clear c8b1
               try clear c9
               try clear c9b0
               try clear c9b1
               try clear c10
               try clear c10b0
               try clear c10b1
               try clear c11
               try clear p11
               try clear q11
               try clear hx11
               try clear hf11
               try clear c16
               try clear hx16
               try clear hf16
               try clear c18
               try clear c18b0
               try clear c20
               try clear c20b0
               try clear c20b1
               try clear c21
               try clear c21b0
               try clear c21b1
               try clear c22
               try clear c22b0
               try clear c23
               try clear c23b0
               try clear c24
               try clear p24
               try clear q24
               try clear hx24
               try clear hf24
               try clear c27
               try clear hx27
               try clear hf27
               try clear hx11_0
               try clear hx16_0
               try clear hx24_0
               try clear hx27_0
               try clear p1
               try clear p11
               try clear p2
               try clear p24
               try clear p6
               try clear q1
               try clear q11
               try clear q24
               obtain ⟨x5_2, x7_2, rfl, HA, HK2, HO_5, HB⟩ := hrel
               have hl5_2 := (Kd.S_reads' HO_5.out).1
               rw [hl5_2] at HO_5
               (try simp only [hl5_2])
               cases gk with
               | zero => exact absurd HA.out (by simp [lcs_left.l1])
               | succ k2 =>
                have H := HA.out
                clear HA
                simp only [lcs_left.l1] at H
                by_cases c29 : x7_2 ≥ 0
                ·rw [if_pos c29] at H
                 have c29b0 : decide (0 ≤ x7_2) = true := decide_eq_true c29
                 clear c29
                 by_cases c30 : 0 ≤ x6_1
                 ·rw [if_pos c30] at H
                  have c30b0 : decide (0 ≤ x6_1) = true := decide_eq_true c30
                  clear c30
                  by_cases c31 : x6_1 < (l0.length : Int)
                  ·rw [if_pos c31] at H
                   have c31b0 : decide (x6_1 < (l0.length : Int)) = true := decide_eq_true c31
                   clear c31
                   by_cases c32 : 0 ≤ x7_2
                   ·rw [if_pos c32] at H
                    have c32b0 : decide (0 ≤ x7_2) = true := decide_eq_true c32
                    clear c32
                    by_cases c33 : x7_2 < (l1.length : Int)
                    ·rw [if_pos c33] at H
                     have c33b0 : decide (x7_2 < (l1.length : Int)) = true := decide_eq_true c33
                     clear c33
                     by_cases c34 : (rd l0 x6_1) = (rd l1 x7_2)
                     ·rw [if_pos c34] at H
                      have c34b0 : ((rd l0 x6_1) == (rd l1 x7_2)) = true := beq_iff_eq.mpr c34
                      have c34b1 : ((rd l0 x6_1) != (rd l1 x7_2)) = false := bne_eq_false_iff_eq.mpr c34
                      clear c34
                      by_cases c35 : x6_1 < (x5_2.length : Int)
                      ·rw [if_pos c35] at H
                       have c35b0 : decide (x6_1 < (x5_2.length : Int)) = true := decide_eq_true c35
                       clear c35
                       obtain ⟨ji36, hji36⟩ : ∃ j_ : Int, (wrap64 (x6_1 + 1)) = j_ := ⟨_, rfl⟩
                       replace H : (if 0 ≤ (ji36) then (if (ji36) < (x5_2.length : Int) then (if 0 ≤ (wrap64 (x7_2 + 1)) then (if (wrap64 (x7_2 + 1)) < ((rd_L9 x5_2 (ji36)).length : Int) then (if x7_2 < ((rd_L9 x5_2 x6_1).length : Int) then (lcs_left.l1 k2 l0 l1 (x5_2.set (x6_1 : Int).toNat ((rd_L9 x5_2 x6_1).set (x7_2 : Int).toNat (wrap32 ((rd (rd_L9 x5_2 (ji36)) (wrap64 (x7_2 + 1))) + 1)))) x6_1 (wrap64 (x7_2 - 1))) else (none)) else (none)) else (none)) else (none)) else (none)) = some r := by first | (rw [hji36] at H; exact H) | (simp only [hji36] at H ⊢; exact H)
                       have hji36w : (IntKind.i64.wrap (x6_1 + 1)) = ji36 := (i64_w _).trans hji36
                       by_cases c37 : 0 ≤ (ji36)
                       ·rw [if_pos c37] at H
                        have c37b0 : decide (0 ≤ (ji36)) = true := decide_eq_true c37
                        clear c37
                        by_cases c38 : (ji36) < (x5_2.length : Int)
                        ·rw [if_pos c38] at H
                         have c38b0 : decide ((ji36) < (x5_2.length : Int)) = true := decide_eq_true c38
                         clear c38
                         obtain ⟨ji39, hji39⟩ : ∃ j_ : Int, (wrap64 (x7_2 + 1)) = j_ := ⟨_, rfl⟩
                         replace H : (if 0 ≤ (ji39) then (if (ji39) < ((rd_L9 x5_2 (ji36)).length : Int) then (if x7_2 < ((rd_L9 x5_2 x6_1).length : Int) then (lcs_left.l1 k2 l0 l1 (x5_2.set (x6_1 : Int).toNat ((rd_L9 x5_2 x6_1).set (x7_2 : Int).toNat (wrap32 ((rd (rd_L9 x5_2 (ji36)) (ji39)) + 1)))) x6_1 (wrap64 (x7_2 - 1))) else (none)) else (none)) else (none)) = some r := by first | (rw [hji39] at H; exact H) | (simp only [hji39] at H ⊢; exact H)
                         have hji39w : (IntKind.i64.wrap (x7_2 + 1)) = ji39 := (i64_w _).trans hji39
                         by_cases c40 : 0 ≤ (ji39)
                         ·rw [if_pos c40] at H
                          have c40b0 : decide (0 ≤ (ji39)) = true := decide_eq_true c40
                          clear c40
                          by_cases c41 : (ji39) < ((rd_L9 x5_2 (ji36)).length : Int)
                          ·rw [if_pos c41] at H
                           have c41b0 : decide ((ji39) < ((rd_L9 x5_2 (ji36)).length : Int)) = true := decide_eq_true c41
                           clear c41
                           by_cases c42 : x7_2 < ((rd_L9 x5_2 x6_1).length : Int)
                           ·rw [if_pos c42] at H
                            have c42b0 : decide (x7_2 < ((rd_L9 x5_2 x6_1).length : Int)) = true := decide_eq_true c42
                            clear c42
                            obtain ⟨y130, hy130⟩ : ∃ y_ : List Int, y_ = ((rd_L9 x5_2 x6_1).set (x7_2 : Int).toNat (wrap32 ((rd (rd_L9 x5_2 (ji36)) (ji39)) + 1))) := ⟨_, rfl⟩
                            replace H : (lcs_left.l1 k2 l0 l1 (x5_2.set (x6_1 : Int).toNat y130) x6_1 (wrap64 (x7_2 - 1))) = some r := by first | (rw [hy130]; with_reducible exact H) | (have H2_ := (Option.bind_some _ _).symm.trans H; rw [hy130]; with_reducible exact H2_) | (have H2_ := (Option.bind_some _ _).symm.trans H; with_reducible exact H2_) | with_reducible exact H | (rw [hy130]; exact H) | exact H
                            have Ny130 := Zm hy130
                            clear hy130
                            obtain ⟨y132, hy132⟩ : ∃ y_ : List (List Int), y_ = (x5_2.set (x6_1 : Int).toNat y130) := ⟨_, rfl⟩
                            replace H : (lcs_left.l1 k2 l0 l1 y132 x6_1 (wrap64 (x7_2 - 1))) = some r := by first | (rw [hy132]; with_reducible exact H) | (have H2_ := (Option.bind_some _ _).symm.trans H; rw [hy132]; with_reducible exact H2_) | (have H2_ := (Option.bind_some _ _).symm.trans H; with_reducible exact H2_) | with_reducible exact H | (rw [hy132]; exact H) | exact H
                            have Ny132 := Zm hy132
                            clear hy132
                            have H' := Zm H
                            clear H
                            try go_wp2
                            have n0_ := Zm (Kd.S_drew HO_5.out)
                            have n1_ := Zm (below_drew1 HB.out)
                            clear HO_5
                            clear HB
                            have HO_5 := n0_
                            have HB := n1_
                            clear n0_ n1_
                            have p125 : 0 ≤ (x6_1 : Int) := Zo (by first | (with_reducible assumption) | assumption)
                            have q125 : x6_1 < (l0.length : Int) := Zo (by first | (with_reducible assumption) | assumption)
                            obtain ⟨ad125, e125, hx125_0⟩ := Kd.at_int HR0.out x6_1 p125 q125
                            have hw125_0 := hx125_0
                            cases e125
                            replace hx125_0 := (HB.out.cell (World.block_lt_of_cell? w _ hx125_0)).trans hx125_0
                            replace p125 := eq_true p125
                            replace q125 := eq_true q125
                            have p126 : 0 ≤ (x7_2 : Int) := Zo (by first | (with_reducible assumption) | assumption)
                            have q126 : x7_2 < (l1.length : Int) := Zo (by first | (with_reducible assumption) | assumption)
                            obtain ⟨ad126, e126, hx126_0⟩ := Kd.at_int HR1.out x7_2 p126 q126
                            have hw126_0 := hx126_0
                            cases e126
                            replace hx126_0 := (HB.out.cell (World.block_lt_of_cell? w _ hx126_0)).trans hx126_0
                            replace p126 := eq_true p126
                            replace q126 := eq_true q126
                            refine start_ (n := 9) (S := fun w' => w'.cell? (ad125.add (x6_1).toNat) = some (.int .i64 (rd l0 x6_1)) ∧ w'.cell? (ad126.add (x7_2).toNat) = some (.int .i64 (rd l1 x7_2))) (ds := []) #[false, false, false, false, false, false, false, false, false] (by kernel_rfl) rfl rfl ⟨((HB.out.cell (World.block_lt_of_cell? w _ hw125_0)).trans hw125_0), ((HB.out.cell (World.block_lt_of_cell? w _ hw126_0)).trans hw126_0)⟩ (fun hHeld => ?_); refine with_tabW lcs_left.tab10 lcs_left.bits10 (fun HT_ HW_ => ?_)
                            generalize wr.drew = w44 at HO_5 HB hx125_0 hx126_0 hHeld ⊢
                            refine pure_ (i := 0) (N := some 41) (v := ?_) (a' := ?_) #[true, false, false, false, false, false, false, false, false] rfl rfl (any_of HT_.out (by kernel_rfl)) (fun _ _ _ h => h) (Or.inl ⟨by rfl, ?_⟩) ?_ ?_
                            rotate_left
                            ·intro w'
                             go_simp
                             with_reducible rfl
                            rotate_left
                            ·simp only [Act.put, List.setIfInBounds_toArray, List.set_cons_zero, List.set_cons_succ, i64_w, i32_w]
                             rfl
                            refine pure_ (i := 1) (N := some 42) (v := ?_) (a' := ?_) #[true, true, false, false, false, false, false, false, false] rfl rfl (any_of HT_.out (by kernel_rfl)) (fun _ _ _ h => h) (Or.inl ⟨by rfl, ?_⟩) ?_ ?_
                            rotate_left
                            ·intro w'
                             go_simp
                             with_reducible rfl
                            rotate_left
                            ·simp only [Act.put, List.setIfInBounds_toArray, List.set_cons_zero, List.set_cons_succ, i64_w, i32_w]
                             rfl
                            refine pure_ (i := 2) (N := some 43) (v := ?_) (a' := ?_) #[true, true, true, false, false, false, false, false, false] rfl rfl (any_of HT_.out (by kernel_rfl)) (fun _ _ _ h => h) (Or.inl ⟨by rfl, ?_⟩) ?_ ?_
                            rotate_left
                            ·intro w'
                             go_simp
                             with_reducible rfl
                            rotate_left
                            ·simp only [Act.put, List.setIfInBounds_toArray, List.set_cons_zero, List.set_cons_succ, i64_w, i32_w]
                             rfl
                            refine pure_ (i := 4) (N := some 45) (v := ?_) (a' := ?_) #[true, true, true, false, true, false, false, false, false] rfl rfl (any_of HT_.out (by kernel_rfl)) (fun _ _ _ h => h) (Or.inl ⟨by rfl, ?_⟩) ?_ ?_
                            rotate_left
                            ·intro w'
                             go_simp
                             with_reducible rfl
                            rotate_left
                            ·simp only [Act.put, List.setIfInBounds_toArray, List.set_cons_zero, List.set_cons_succ, i64_w, i32_w]
                             rfl
                            refine pure_ (i := 5) (N := some 46) (v := ?_) (a' := ?_) #[true, true, true, false, true, true, false, false, false] rfl rfl (any_of HT_.out (by kernel_rfl)) (fun _ _ _ h => h) (Or.inl ⟨by rfl, ?_⟩) ?_ ?_
                            rotate_left
                            ·intro w'
                             go_simp
                             with_reducible rfl
                            rotate_left
                            ·simp only [Act.put, List.setIfInBounds_toArray, List.set_cons_zero, List.set_cons_succ, i64_w, i32_w]
                             rfl
                            refine pure_ (i := 6) (N := some 47) (v := ?_) (a' := ?_) #[true, true, true, false, true, true, true, false, false] rfl rfl (any_of HT_.out (by kernel_rfl)) (fun _ _ _ h => h) (Or.inl ⟨by rfl, ?_⟩) ?_ ?_
                            rotate_left
                            ·intro w'
                             go_simp
                             with_reducible rfl
                            rotate_left
                            ·simp only [Act.put, List.setIfInBounds_toArray, List.set_cons_zero, List.set_cons_succ, i64_w, i32_w]
                             rfl
                            refine take_ (i := 3) (N := some 44) (v := ?_) (a' := ?_) #[true, true, true, true, true, true, true, false, false] rfl rfl (take_ofW HT_.out HW_.out (by kernel_rfl)) (fun _ _ _ h => h) (Or.inl ⟨by rfl, ?_⟩) hHeld ?_ ?_
                            rotate_left
                            ·rintro w' ⟨s0, s1⟩
                             go_simp
                             with_reducible rfl
                            rotate_left
                            ·simp only [Act.put, List.setIfInBounds_toArray, List.set_cons_zero, List.set_cons_succ, i64_w, i32_w]
                             rfl
                            refine take_ (i := 7) (N := some 48) (v := ?_) (a' := ?_) #[true, true, true, true, true, true, true, true, false] rfl rfl (take_ofW HT_.out HW_.out (by kernel_rfl)) (fun _ _ _ h => h) (Or.inl ⟨by rfl, ?_⟩) hHeld ?_ ?_
                            rotate_left
                            ·rintro w' ⟨s0, s1⟩
                             go_simp
                             with_reducible rfl
                            rotate_left
                            ·simp only [Act.put, List.setIfInBounds_toArray, List.set_cons_zero, List.set_cons_succ, i64_w, i32_w]
                             rfl
                            refine pure_ (i := 8) (N := some 49) (v := ?_) (a' := ?_) #[true, true, true, true, true, true, true, true, true] rfl rfl (any_of HT_.out (by kernel_rfl)) (fun _ _ _ h => h) (Or.inl ⟨by rfl, ?_⟩) ?_ ?_
                            rotate_left
                            ·intro w'
                             go_simp
                             with_reducible rfl
                            rotate_left
                            ·simp only [Act.put, List.setIfInBounds_toArray, List.set_cons_zero, List.set_cons_succ, i64_w, i32_w]
                             rfl
                            refine done_ (done_of HT_.out (by kernel_rfl)) ?_
                            try go_wp2
                            have n0_ := Zm (Kd.S_drew HO_5.out)
                            have n1_ := Zm (below_drew1 HB.out)
                            clear HO_5
                            clear HB
                            have HO_5 := n0_
                            have HB := n1_
                            clear n0_ n1_
                            have p127 : 0 ≤ (x6_1 : Int) := Zo (by first | (with_reducible assumption) | assumption)
                            have q127 : x6_1 < (x5_2.length : Int) := Zo (by first | (with_reducible assumption) | assumption)
                            obtain ⟨ad127, A127_0, c127_0, e127, hx127_0, hl127_0, hi127_0⟩ := at_L9 (Kd.S_reads' HO_5.out).2.2 x6_1 p127 q127
                            obtain rfl : (⟨go11, 0, none⟩ : Addr) = ad127 := (by injection e127)
                            obtain ⟨ce127, hce127, hMe127, hcc127⟩ := Kd.S_get HO_5.out [] x6_1 p127 (by first | exact q127 | exact Zo (by first | (with_reducible assumption) | assumption) | (have e_ := (Kd.S_reads' HO_5.out).1; omega))
                            obtain ⟨ve127_0, rfl, ge127_0⟩ := hMe127
                            have hv127_0 := hcc127 0 _ rfl
                            rw [Nat.add_zero, show ((Kd.slice 21 (Kd.int .i32))).sz = 1 from rfl, Nat.mul_one] at hv127_0
                            replace hv127_0 := Option.some.inj (hv127_0.symm.trans hx127_0)
                            rw [hv127_0] at ge127_0
                            have HL127_0 := Zm (show Kd.R (Kd.int .i32) 21 _ _ _ _ (rd_L9 x5_2 x6_1) from ge127_0)
                            clear hv127_0 ge127_0
                            have HX127_0 := Zm hx127_0
                            clear hcc127 hce127
                            (first | simp only [add_plain] at hx127_0 | simp only [add_at] at hx127_0 | simp only [Addr.add, Nat.zero_add] at hx127_0 | skip)
                            have HR127_0 := Zm hi127_0
                            have HC127_0 := Zm hl127_0
                            clear hi127_0 hl127_0
                            replace p127 := eq_true p127
                            replace q127 := eq_true q127
                            have p128 : 0 ≤ ((ji36) : Int) := Zo (by first | (with_reducible assumption) | assumption)
                            have q128 : (ji36) < (x5_2.length : Int) := Zo (by first | (with_reducible assumption) | assumption)
                            obtain ⟨ad128, A128_0, c128_0, e128, hx128_0, hl128_0, hi128_0⟩ := at_L9 (Kd.S_reads' HO_5.out).2.2 (ji36) p128 q128
                            obtain rfl : (⟨go11, 0, none⟩ : Addr) = ad128 := (by injection e128)
                            obtain ⟨ce128, hce128, hMe128, hcc128⟩ := Kd.S_get HO_5.out [] (ji36) p128 (by first | exact q128 | exact Zo (by first | (with_reducible assumption) | assumption) | (have e_ := (Kd.S_reads' HO_5.out).1; omega))
                            obtain ⟨ve128_0, rfl, ge128_0⟩ := hMe128
                            have hv128_0 := hcc128 0 _ rfl
                            rw [Nat.add_zero, show ((Kd.slice 21 (Kd.int .i32))).sz = 1 from rfl, Nat.mul_one] at hv128_0
                            replace hv128_0 := Option.some.inj (hv128_0.symm.trans hx128_0)
                            rw [hv128_0] at ge128_0
                            have HL128_0 := Zm (show Kd.R (Kd.int .i32) 21 _ _ _ _ (rd_L9 x5_2 (ji36)) from ge128_0)
                            clear hv128_0 ge128_0
                            have HX128_0 := Zm hx128_0
                            clear hcc128 hce128
                            (first | simp only [add_plain] at hx128_0 | simp only [add_at] at hx128_0 | simp only [Addr.add, Nat.zero_add] at hx128_0 | skip)
                            have HR128_0 := Zm hi128_0
                            have HC128_0 := Zm hl128_0
                            clear hi128_0 hl128_0
                            replace p128 := eq_true p128
                            replace q128 := eq_true q128
                            have p129 : 0 ≤ ((ji39) : Int) := Zo (by first | (with_reducible assumption) | assumption)
                            have q129 : (ji39) < ((rd_L9 x5_2 (ji36)).length : Int) := Zo (by first | (with_reducible assumption) | assumption)
                            obtain ⟨ad129, e129, hx129_0⟩ := Kd.at_int (by repeat (first | (with_reducible exact HR128_0.out) | (with_reducible refine Kd.C_alloc ?_ _) | (with_reducible refine Kd.C_drewN ?_ _) | (with_reducible refine Kd.C_drew ?_) | exact HR128_0.out)) (ji39) p129 q129
                            cases e129
                            replace p129 := eq_true p129
                            replace q129 := eq_true q129
                            have p43 : 0 ≤ (x7_2 : Int) := Zo (by first | (with_reducible assumption) | assumption)
                            have q43 : (x7_2 : Int) < (((rd_L9 x5_2 x6_1).length : Int) : Int) := Zo (by first | (with_reducible assumption) | assumption)
                            obtain ⟨go43, co43, eo43, gb43, gl43, cl43, HG43⟩ := Kd.R_form HL127_0.out (by omega)
                            (first | cases eo43 | (injection eo43 with ea_ en_ ec_; (first | subst ea_ | (injection ea_ with ea_; subst ea_)); subst ec_; clear en_))
                            have GB43 := Zm gb43
                            have GG43 := Zm HG43
                            clear gb43 gl43 HG43
                            obtain ⟨hx43_0, hf43_0⟩ := Kd.R_celln 0 HL127_0.out (x7_2 : Int) p43 q43
                            replace p43 := eq_true p43
                            replace q43 := eq_true q43
                            have hq46 : (x6_1 : Int) < (x5_2.length : Int) := (by have h_ : (x6_1 : Int) < ((x5_2.length : Int) : Int) := Zo (by first | (with_reducible assumption) | assumption); first | exact h_ | (have e_ := (Kd.S_reads' HO_5.out).1; omega) | simpa only [List.length_set, List.length_set] using h_)
                            obtain ⟨oki46, ce46, hcl46, hM46, hcc46, hok46, hbk46⟩ := Kd.S_borrow HO_5.out [] (x6_1 : Int) (Zo (by first | (with_reducible assumption) | assumption)) hq46
                            obtain ⟨ve46_0, rfl, ge46_0⟩ := hM46
                            have hv46 := hcc46 0 _ rfl
                            rw [Nat.add_zero, show ((Kd.slice 21 (Kd.int .i32))).sz = 1 from rfl, Nat.mul_one] at hv46
                            replace hv46 := Option.some.inj (hv46.symm.trans HX127_0.out)
                            subst hv46
                            clear hcc46 hcl46
                            replace ge46_0 := (show Kd.R (Kd.int .i32) 21 _ _ _ _ (rd_L9 x5_2 x6_1) from ge46_0)
                            have HP46 := Kd.R_putg ge46_0 (x7_2 : Int) (wrap32 ((rd (rd_L9 x5_2 (ji36)) (ji39)) + 1))
                            rw [← Ny130.out] at HP46
                            have HS46 := hbk46 HP46.2 (fun k_ e_ => by injection e_ with e_; subst e_; exact ge46_0.1 _ rfl) (x' := y130) (Kd.M_row HP46.1)
                            rw [← Ny132.out] at HS46
                            have HQ46 := Zm HS46
                            clear HP46 HS46 hbk46 hok46
                            refine start_ (n := 17) (S := fun w' => w'.cell? ⟨go11, (x6_1).toNat, none⟩ = some (.slice (some ⟨go43, 0, none⟩) (rd_L9 x5_2 x6_1).length c127_0) ∧ w'.cell? ⟨go11, ((ji36)).toNat, none⟩ = some (.slice (some ad129) (rd_L9 x5_2 (ji36)).length c128_0) ∧ w'.cell? (ad129.add ((ji39)).toNat) = some (.int .i32 (rd (rd_L9 x5_2 (ji36)) (ji39)))) (ds := [16]) #[false, false, false, false, false, false, false, false, false, false, false, false, false, false, false, false, false] (by kernel_rfl) rfl rfl ⟨hx127_0, hx128_0, hx129_0⟩ (fun hHeld => ?_); refine with_tabW lcs_left.tab11 lcs_left.bits11 (fun HT_ HW_ => ?_)
                            generalize w44.drew = w45 at HO_5 HB GG43 HL127_0 HL128_0 HQ46 HR127_0 HR128_0 HX127_0 HX128_0 hf43_0 hx127_0 hx128_0 hx129_0 hx43_0 hHeld ⊢
                            refine pure_ (i := 0) (N := some 50) (v := ?_) (a' := ?_) #[true, false, false, false, false, false, false, false, false, false, false, false, false, false, false, false, false] rfl rfl (any_of HT_.out (by kernel_rfl)) (fun _ _ _ h => h) (Or.inl ⟨by rfl, ?_⟩) ?_ ?_
                            rotate_left
                            ·intro w'
                             go_simp
                             with_reducible rfl
                            rotate_left
                            ·simp only [Act.put, List.setIfInBounds_toArray, List.set_cons_zero, List.set_cons_succ, i64_w, i32_w]
                             rfl
                            refine pure_ (i := 1) (N := some 51) (v := ?_) (a' := ?_) #[true, true, false, false, false, false, false, false, false, false, false, false, false, false, false, false, false] rfl rfl (any_of HT_.out (by kernel_rfl)) (fun _ _ _ h => h) (Or.inl ⟨by rfl, ?_⟩) ?_ ?_
                            rotate_left
                            ·intro w'
                             go_simp
                             with_reducible rfl
                            rotate_left
                            ·simp only [Act.put, List.setIfInBounds_toArray, List.set_cons_zero, List.set_cons_succ, i64_w, i32_w]
                             rfl
                            refine pure_ (i := 2) (N := some 52) (v := ?_) (a' := ?_) #[true, true, true, false, false, false, false, false, false, false, false, false, false, false, false, false, false] rfl rfl (any_of HT_.out (by kernel_rfl)) (fun _ _ _ h => h) (Or.inl ⟨by rfl, ?_⟩) ?_ ?_
                            rotate_left
                            ·intro w'
                             go_simp
                             with_reducible rfl
                            rotate_left
                            ·simp only [Act.put, List.setIfInBounds_toArray, List.set_cons_zero, List.set_cons_succ, i64_w, i32_w]
                             rfl
                            refine pure_ (i := 4) (N := some 54) (v := ?_) (a' := ?_) #[true, true, true, false, true, false, false, false, false, false, false, false, false, false, false, false, false] rfl rfl (any_of HT_.out (by kernel_rfl)) (fun _ _ _ h => h) (Or.inl ⟨by rfl, ?_⟩) ?_ ?_
                            rotate_left
                            ·intro w'
                             go_simp
                             with_reducible rfl
                            rotate_left
                            ·simp only [Act.put, List.setIfInBounds_toArray, List.set_cons_zero, List.set_cons_succ, i64_w, i32_w]
                             rfl
                            refine pure_ (i := 5) (N := some 55) (v := ?_) (a' := ?_) #[true, true, true, false, true, true, false, false, false, false, false, false, false, false, false, false, false] rfl rfl (any_of HT_.out (by kernel_rfl)) (fun _ _ _ h => h) (Or.inl ⟨by rfl, ?_⟩) ?_ ?_
                            rotate_left
                            ·intro w'
                             go_simp
                             with_reducible rfl
                            rotate_left
                            ·simp only [Act.put, List.setIfInBounds_toArray, List.set_cons_zero, List.set_cons_succ, i64_w, i32_w]
                             rfl
                            refine pure_ (i := 6) (N := some 56) (v := ?_) (a' := ?_) #[true, true, true, false, true, true, true, false, false, false, false, false, false, false, false, false, false] rfl rfl (any_of HT_.out (by kernel_rfl)) (fun _ _ _ h => h) (Or.inl ⟨by rfl, ?_⟩) ?_ ?_
                            rotate_left
                            ·intro w'
                             go_simp
                             with_reducible rfl
                            rotate_left
                            ·simp only [Act.put, List.setIfInBounds_toArray, List.set_cons_zero, List.set_cons_succ, i64_w, i32_w]
                             rfl
                            refine pure_ (i := 7) (N := some 57) (v := ?_) (a' := ?_) #[true, true, true, false, true, true, true, true, false, false, false, false, false, false, false, false, false] rfl rfl (any_of HT_.out (by kernel_rfl)) (fun _ _ _ h => h) (Or.inl ⟨by rfl, ?_⟩) ?_ ?_
                            rotate_left
                            ·intro w'
                             go_simp
                             with_reducible rfl
                            rotate_left
                            ·simp only [Act.put, List.setIfInBounds_toArray, List.set_cons_zero, List.set_cons_succ, i64_w, i32_w]
                             rfl
                            refine pure_ (i := 8) (N := some 58) (v := ?_) (a' := ?_) #[true, true, true, false, true, true, true, true, true, false, false, false, false, false, false, false, false] rfl rfl (any_of HT_.out (by kernel_rfl)) (fun _ _ _ h => h) (Or.inl ⟨by rfl, ?_⟩) ?_ ?_
                            rotate_left
                            ·intro w'
                             go_simp
                             with_reducible rfl
                            rotate_left
                            ·simp only [Act.put, List.setIfInBounds_toArray, List.set_cons_zero, List.set_cons_succ, i64_w, i32_w]
                             rfl
                            refine pure_ (i := 10) (N := some 60) (v := ?_) (a' := ?_) #[true, true, true, false, true, true, true, true, true, false, true, false, false, false, false, false, false] rfl rfl (any_of HT_.out (by kernel_rfl)) (fun _ _ _ h => h) (Or.inl ⟨by rfl, ?_⟩) ?_ ?_
                            rotate_left
                            ·intro w'
                             go_simp
                             with_reducible rfl
                            rotate_left
                            ·simp only [Act.put, List.setIfInBounds_toArray, List.set_cons_zero, List.set_cons_succ, i64_w, i32_w]
                             rfl
                            refine pure_ (i := 11) (N := some 61) (v := ?_) (a' := ?_) #[true, true, true, false, true, true, true, true, true, false, true, true, false, false, false, false, false] rfl rfl (any_of HT_.out (by kernel_rfl)) (fun _ _ _ h => h) (Or.inl ⟨by rfl, ?_⟩) ?_ ?_
                            rotate_left
                            ·intro w'
                             go_simp
                             with_reducible rfl
                            rotate_left
                            ·simp only [Act.put, List.setIfInBounds_toArray, List.set_cons_zero, List.set_cons_succ, i64_w, i32_w]
                             rfl
                            refine take_ (i := 3) (N := some 53) (v := ?_) (a' := ?_) #[true, true, true, true, true, true, true, true, true, false, true, true, false, false, false, false, false] rfl rfl (take_ofW HT_.out HW_.out (by kernel_rfl)) (fun _ _ _ h => h) (Or.inl ⟨by rfl, ?_⟩) hHeld ?_ ?_
                            rotate_left
                            ·rintro w' ⟨s0, s1, s2⟩
                             go_simp
                             with_reducible rfl
                            rotate_left
                            ·simp only [Act.put, List.setIfInBounds_toArray, List.set_cons_zero, List.set_cons_succ, i64_w, i32_w]
                             rfl
                            refine take_ (i := 9) (N := some 59) (v := ?_) (a' := ?_) #[true, true, true, true, true, true, true, true, true, true, true, true, false, false, false, false, false] rfl rfl (take_ofW HT_.out HW_.out (by kernel_rfl)) (fun _ _ _ h => h) (Or.inl ⟨by rfl, ?_⟩) hHeld ?_ ?_
                            rotate_left
                            ·rintro w' ⟨s0, s1, s2⟩
                             go_simp
                             with_reducible rfl
                            rotate_left
                            ·simp only [Act.put, List.setIfInBounds_toArray, List.set_cons_zero, List.set_cons_succ, i64_w, i32_w]
                             rfl
                            refine pure_ (i := 12) (N := some 62) (v := ?_) (a' := ?_) #[true, true, true, true, true, true, true, true, true, true, true, true, true, false, false, false, false] rfl rfl (any_of HT_.out (by kernel_rfl)) (fun _ _ _ h => h) (Or.inl ⟨by rfl, ?_⟩) ?_ ?_
                            rotate_left
                            ·intro w'
                             go_simp
                             with_reducible rfl
                            rotate_left
                            ·simp only [Act.put, List.setIfInBounds_toArray, List.set_cons_zero, List.set_cons_succ, i64_w, i32_w]
                             rfl
                            refine take_ (i := 13) (N := some 63) (v := ?_) (a' := ?_) #[true, true, true, true, true, true, true, true, true, true, true, true, true, true, false, false, false] rfl rfl (take_ofW HT_.out HW_.out (by kernel_rfl)) (fun _ _ _ h => h) (Or.inl ⟨by rfl, ?_⟩) hHeld ?_ ?_
                            rotate_left
                            ·rintro w' ⟨s0, s1, s2⟩
                             go_simp
                             with_reducible rfl
                            rotate_left
                            ·simp only [Act.put, List.setIfInBounds_toArray, List.set_cons_zero, List.set_cons_succ, i64_w, i32_w]
                             rfl
                            refine pure_ (i := 14) (N := some 64) (v := ?_) (a' := ?_) #[true, true, true, true, true, true, true, true, true, true, true, true, true, true, true, false, false] rfl rfl (any_of HT_.out (by kernel_rfl)) (fun _ _ _ h => h) (Or.inl ⟨by rfl, ?_⟩) ?_ ?_
                            rotate_left
                            ·intro w'
                             go_simp
                             with_reducible rfl
                            rotate_left
                            ·simp only [Act.put, List.setIfInBounds_toArray, List.set_cons_zero, List.set_cons_succ, i64_w, i32_w]
                             rfl
                            refine pure_ (i := 15) (N := some 65) (v := ?_) (a' := ?_) #[true, true, true, true, true, true, true, true, true, true, true, true, true, true, true, true, false] rfl rfl (any_of HT_.out (by kernel_rfl)) (fun _ _ _ h => h) (Or.inl ⟨by rfl, ?_⟩) ?_ ?_
                            rotate_left
                            ·intro w'
                             go_simp
                             with_reducible rfl
                            rotate_left
                            ·simp only [Act.put, List.setIfInBounds_toArray, List.set_cons_zero, List.set_cons_succ, i64_w, i32_w]
                             rfl
                            refine last_ (i := 16) (N := none) #[true, true, true, true, true, true, true, true, true, true, true, true, true, true, true, true, true] rfl rfl (one_of HT_.out (by kernel_rfl)) (by decide) (fun K hK => ?_)
                            refine skip_ (w1 := ?_) (by rfl) rfl ?_ ?_
                            rotate_left
                            ·go_simp
                             rfl
                            refine hK.out _ _ ?_
                            clear hK K
                            refine done_ (done_of HT_.out (by kernel_rfl)) ?_
                            try go_wp2
                            (try simp only [← hl5_2])
                            go_roundg k2
                            case measure => have := HK1.out; have := HK2.out; omega
                            case rel => exact ⟨(y132), (wrap64 (x7_2 - 1)), (by first | rfl | (simp; done) | (simp [*]; done)), H', ⟨by have := HK1.out; have := HK2.out; omega⟩, ⟨by (try simp only [hl5_1]); (try simp only [hl5_2]); (with_reducible repeat (first | apply Kd.S_alloc | apply Kd.S_drewN | apply Kd.S_drew)); exact HQ46.out⟩, ⟨by repeat (first | (with_reducible first | exact HB.out | apply below_alloc | apply Zd | apply below_drew1 | refine below_set ?_ GB43.out) | exact HB.out)⟩⟩
                           ·rw [if_neg c42] at H
                            exact absurd H (by simp)
                          ·rw [if_neg c41] at H
                           exact absurd H (by simp)
                         ·rw [if_neg c40] at H
                          exact absurd H (by simp)
                        ·rw [if_neg c38] at H
                         exact absurd H (by simp)
                       ·rw [if_neg c37] at H
                        exact absurd H (by simp)
                      ·rw [if_neg c35] at H
                       exact absurd H (by simp)
                     ·rw [if_neg c34] at H
                      have c34b0 : ((rd l0 x6_1) == (rd l1 x7_2)) = false := beq_eq_false_iff_ne.mpr c34
                      have c34b1 : ((rd l0 x6_1) != (rd l1 x7_2)) = true := bne_iff_ne.mpr c34
                      by_cases c48 : x6_1 < (x5_2.length : Int)
                      ·rw [if_pos c48] at H
                       have c48b0 : decide (x6_1 < (x5_2.length : Int)) = true := decide_eq_true c48
                       clear c48
                       obtain ⟨ji49, hji49⟩ : ∃ j_ : Int, (wrap64 (x6_1 + 1)) = j_ := ⟨_, rfl⟩
                       replace H : (if 0 ≤ (ji49) then (if (ji49) < (x5_2.length : Int) then (if x7_2 < ((rd_L9 x5_2 (ji49)).length : Int) then (if 0 ≤ (wrap64 (x7_2 + 1)) then (if (wrap64 (x7_2 + 1)) < ((rd_L9 x5_2 x6_1).length : Int) then (if x7_2 < ((rd_L9 x5_2 x6_1).length : Int) then (lcs_left.l1 k2 l0 l1 (x5_2.set (x6_1 : Int).toNat ((rd_L9 x5_2 x6_1).set (x7_2 : Int).toNat (mx (rd (rd_L9 x5_2 (ji49)) x7_2) (rd (rd_L9 x5_2 x6_1) (wrap64 (x7_2 + 1)))))) x6_1 (wrap64 (x7_2 - 1))) else (none)) else (none)) else (none)) else (none)) else (none)) else (none)) = some r := by first | (rw [hji49] at H; exact H) | (simp only [hji49] at H ⊢; exact H)
                       have hji49w : (IntKind.i64.wrap (x6_1 + 1)) = ji49 := (i64_w _).trans hji49
                       by_cases c50 : 0 ≤ (ji49)
                       ·rw [if_pos c50] at H
                        have c50b0 : decide (0 ≤ (ji49)) = true := decide_eq_true c50
                        clear c50
                        by_cases c51 : (ji49) < (x5_2.length : Int)
                        ·rw [if_pos c51] at H
                         have c51b0 : decide ((ji49) < (x5_2.length : Int)) = true := decide_eq_true c51
                         clear c51
                         by_cases c52 : x7_2 < ((rd_L9 x5_2 (ji49)).length : Int)
                         ·rw [if_pos c52] at H
                          have c52b0 : decide (x7_2 < ((rd_L9 x5_2 (ji49)).length : Int)) = true := decide_eq_true c52
                          clear c52
                          obtain ⟨ji53, hji53⟩ : ∃ j_ : Int, (wrap64 (x7_2 + 1)) = j_ := ⟨_, rfl⟩
                          replace H : (if 0 ≤ (ji53) then (if (ji53) < ((rd_L9 x5_2 x6_1).length : Int) then (if x7_2 < ((rd_L9 x5_2 x6_1).length : Int) then (lcs_left.l1 k2 l0 l1 (x5_2.set (x6_1 : Int).toNat ((rd_L9 x5_2 x6_1).set (x7_2 : Int).toNat (mx (rd (rd_L9 x5_2 (ji49)) x7_2) (rd (rd_L9 x5_2 x6_1) (ji53))))) x6_1 (wrap64 (x7_2 - 1))) else (none)) else (none)) else (none)) = some r := by first | (rw [hji53] at H; exact H) | (simp only [hji53] at H ⊢; exact H)
                          have hji53w : (IntKind.i64.wrap (x7_2 + 1)) = ji53 := (i64_w _).trans hji53
                          by_cases c54 : 0 ≤ (ji53)
                          ·rw [if_pos c54] at H
                           have c54b0 : decide (0 ≤ (ji53)) = true := decide_eq_true c54
                           clear c54
                           by_cases c55 : (ji53) < ((rd_L9 x5_2 x6_1).length : Int)
                           ·rw [if_pos c55] at H
                            have c55b0 : decide ((ji53) < ((rd_L9 x5_2 x6_1).length : Int)) = true := decide_eq_true c55
                            clear c55
                            obtain ⟨ji56, hji56⟩ : ∃ j_ : Int, (mx (rd (rd_L9 x5_2 (ji49)) x7_2) (rd (rd_L9 x5_2 x6_1) (ji53))) = j_ := ⟨_, rfl⟩
                            replace H : (if x7_2 < ((rd_L9 x5_2 x6_1).length : Int) then (lcs_left.l1 k2 l0 l1 (x5_2.set (x6_1 : Int).toNat ((rd_L9 x5_2 x6_1).set (x7_2 : Int).toNat (ji56))) x6_1 (wrap64 (x7_2 - 1))) else (none)) = some r := by first | (rw [hji56] at H; exact H) | (simp only [hji56] at H ⊢; exact H)
                            have hji56_ : (if (rd (rd_L9 x5_2 (ji49)) x7_2) < (rd (rd_L9 x5_2 x6_1) (ji53)) then (rd (rd_L9 x5_2 x6_1) (ji53)) else (rd (rd_L9 x5_2 (ji49)) x7_2)) = ji56 := hji56
                            by_cases c57 : x7_2 < ((rd_L9 x5_2 x6_1).length : Int)
                            ·rw [if_pos c57] at H
                             have c57b0 : decide (x7_2 < ((rd_L9 x5_2 x6_1).length : Int)) = true := decide_eq_true c57
                             clear c57
                             obtain ⟨y138, hy138⟩ : ∃ y_ : List Int, y_ = ((rd_L9 x5_2 x6_1).set (x7_2 : Int).toNat (ji56)) := ⟨_, rfl⟩
                             replace H : (lcs_left.l1 k2 l0 l1 (x5_2.set (x6_1 : Int).toNat y138) x6_1 (wrap64 (x7_2 - 1))) = some r := by first | (rw [hy138]; with_reducible exact H) | (have H2_ := (Option.bind_some _ _).symm.trans H; rw [hy138]; with_reducible exact H2_) | (have H2_ := (Option.bind_some _ _).symm.trans H; with_reducible exact H2_) | with_reducible exact H | (rw [hy138]; exact H) | exact H
                             have Ny138 := Zm hy138
                             clear hy138
                             obtain ⟨y140, hy140⟩ : ∃ y_ : List (List Int), y_ = (x5_2.set (x6_1 : Int).toNat y138) := ⟨_, rfl⟩
                             replace H : (lcs_left.l1 k2 l0 l1 y140 x6_1 (wrap64 (x7_2 - 1))) = some r := by first | (rw [hy140]; with_reducible exact H) | (have H2_ := (Option.bind_some _ _).symm.trans H; rw [hy140]; with_reducible exact H2_) | (have H2_ := (Option.bind_some _ _).symm.trans H; with_reducible exact H2_) | with_reducible exact H | (rw [hy140]; exact H) | exact H
                             have Ny140 := Zm hy140
                             clear hy140
                             have H' := Zm H
                             clear H
                             try go_wp2
                             have n0_ := Zm (Kd.S_drew HO_5.out)
                             have n1_ := Zm (below_drew1 HB.out)
                             clear HO_5
                             clear HB
                             have HO_5 := n0_
                             have HB := n1_
                             clear n0_ n1_
                             have p125 : 0 ≤ (x6_1 : Int) := Zo (by first | (with_reducible assumption) | assumption)
                             have q125 : x6_1 < (l0.length : Int) := Zo (by first | (with_reducible assumption) | assumption)
                             obtain ⟨ad125, e125, hx125_0⟩ := Kd.at_int HR0.out x6_1 p125 q125
                             have hw125_0 := hx125_0
                             cases e125
                             replace hx125_0 := (HB.out.cell (World.block_lt_of_cell? w _ hx125_0)).trans hx125_0
                             replace p125 := eq_true p125
                             replace q125 := eq_true q125
                             have p126 : 0 ≤ (x7_2 : Int) := Zo (by first | (with_reducible assumption) | assumption)
                             have q126 : x7_2 < (l1.length : Int) := Zo (by first | (with_reducible assumption) | assumption)
                             obtain ⟨ad126, e126, hx126_0⟩ := Kd.at_int HR1.out x7_2 p126 q126
                             have hw126_0 := hx126_0
                             cases e126
                             replace hx126_0 := (HB.out.cell (World.block_lt_of_cell? w _ hx126_0)).trans hx126_0
                             replace p126 := eq_true p126
                             replace q126 := eq_true q126
                             refine start_ (n := 9) (S := fun w' => w'.cell? (ad125.add (x6_1).toNat) = some (.int .i64 (rd l0 x6_1)) ∧ w'.cell? (ad126.add (x7_2).toNat) = some (.int .i64 (rd l1 x7_2))) (ds := []) #[false, false, false, false, false, false, false, false, false] (by kernel_rfl) rfl rfl ⟨((HB.out.cell (World.block_lt_of_cell? w _ hw125_0)).trans hw125_0), ((HB.out.cell (World.block_lt_of_cell? w _ hw126_0)).trans hw126_0)⟩ (fun hHeld => ?_); refine with_tabW lcs_left.tab10 lcs_left.bits10 (fun HT_ HW_ => ?_)
                             generalize wr.drew = w59 at HO_5 HB hx125_0 hx126_0 hHeld ⊢
                             refine pure_ (i := 0) (N := some 41) (v := ?_) (a' := ?_) #[true, false, false, false, false, false, false, false, false] rfl rfl (any_of HT_.out (by kernel_rfl)) (fun _ _ _ h => h) (Or.inl ⟨by rfl, ?_⟩) ?_ ?_
                             rotate_left
                             ·intro w'
                              go_simp
                              with_reducible rfl
                             rotate_left
                             ·simp only [Act.put, List.setIfInBounds_toArray, List.set_cons_zero, List.set_cons_succ, i64_w, i32_w]
                              rfl
                             refine pure_ (i := 1) (N := some 42) (v := ?_) (a' := ?_) #[true, true, false, false, false, false, false, false, false] rfl rfl (any_of HT_.out (by kernel_rfl)) (fun _ _ _ h => h) (Or.inl ⟨by rfl, ?_⟩) ?_ ?_
                             rotate_left
                             ·intro w'
                              go_simp
                              with_reducible rfl
                             rotate_left
                             ·simp only [Act.put, List.setIfInBounds_toArray, List.set_cons_zero, List.set_cons_succ, i64_w, i32_w]
                              rfl
                             refine pure_ (i := 2) (N := some 43) (v := ?_) (a' := ?_) #[true, true, true, false, false, false, false, false, false] rfl rfl (any_of HT_.out (by kernel_rfl)) (fun _ _ _ h => h) (Or.inl ⟨by rfl, ?_⟩) ?_ ?_
                             rotate_left
                             ·intro w'
                              go_simp
                              with_reducible rfl
                             rotate_left
                             ·simp only [Act.put, List.setIfInBounds_toArray, List.set_cons_zero, List.set_cons_succ, i64_w, i32_w]
                              rfl
                             refine pure_ (i := 4) (N := some 45) (v := ?_) (a' := ?_) #[true, true, true, false, true, false, false, false, false] rfl rfl (any_of HT_.out (by kernel_rfl)) (fun _ _ _ h => h) (Or.inl ⟨by rfl, ?_⟩) ?_ ?_
                             rotate_left
                             ·intro w'
                              go_simp
                              with_reducible rfl
                             rotate_left
                             ·simp only [Act.put, List.setIfInBounds_toArray, List.set_cons_zero, List.set_cons_succ, i64_w, i32_w]
                              rfl
                             refine pure_ (i := 5) (N := some 46) (v := ?_) (a' := ?_) #[true, true, true, false, true, true, false, false, false] rfl rfl (any_of HT_.out (by kernel_rfl)) (fun _ _ _ h => h) (Or.inl ⟨by rfl, ?_⟩) ?_ ?_
                             rotate_left
                             ·intro w'
                              go_simp
                              with_reducible rfl
                             rotate_left
                             ·simp only [Act.put, List.setIfInBounds_toArray, List.set_cons_zero, List.set_cons_succ, i64_w, i32_w]
                              rfl
                             refine pure_ (i := 6) (N := some 47) (v := ?_) (a' := ?_) #[true, true, true, false, true, true, true, false, false] rfl rfl (any_of HT_.out (by kernel_rfl)) (fun _ _ _ h => h) (Or.inl ⟨by rfl, ?_⟩) ?_ ?_
                             rotate_left
                             ·intro w'
                              go_simp
                              with_reducible rfl
                             rotate_left
                             ·simp only [Act.put, List.setIfInBounds_toArray, List.set_cons_zero, List.set_cons_succ, i64_w, i32_w]
                              rfl
                             refine take_ (i := 3) (N := some 44) (v := ?_) (a' := ?_) #[true, true, true, true, true, true, true, false, false] rfl rfl (take_ofW HT_.out HW_.out (by kernel_rfl)) (fun _ _ _ h => h) (Or.inl ⟨by rfl, ?_⟩) hHeld ?_ ?_
                             rotate_left
                             ·rintro w' ⟨s0, s1⟩
                              go_simp
                              with_reducible rfl
                             rotate_left
                             ·simp only [Act.put, List.setIfInBounds_toArray, List.set_cons_zero, List.set_cons_succ, i64_w, i32_w]
                              rfl
                             refine take_ (i := 7) (N := some 48) (v := ?_) (a' := ?_) #[true, true, true, true, true, true, true, true, false] rfl rfl (take_ofW HT_.out HW_.out (by kernel_rfl)) (fun _ _ _ h => h) (Or.inl ⟨by rfl, ?_⟩) hHeld ?_ ?_
                             rotate_left
                             ·rintro w' ⟨s0, s1⟩
                              go_simp
                              with_reducible rfl
                             rotate_left
                             ·simp only [Act.put, List.setIfInBounds_toArray, List.set_cons_zero, List.set_cons_succ, i64_w, i32_w]
                              rfl
                             refine pure_ (i := 8) (N := some 49) (v := ?_) (a' := ?_) #[true, true, true, true, true, true, true, true, true] rfl rfl (any_of HT_.out (by kernel_rfl)) (fun _ _ _ h => h) (Or.inl ⟨by rfl, ?_⟩) ?_ ?_
                             rotate_left
                             ·intro w'
                              go_simp
                              with_reducible rfl
                             rotate_left
                             ·simp only [Act.put, List.setIfInBounds_toArray, List.set_cons_zero, List.set_cons_succ, i64_w, i32_w]
                              rfl
                             refine done_ (done_of HT_.out (by kernel_rfl)) ?_
                             try go_wp2
                             have n0_ := Zm (Kd.S_drew HO_5.out)
                             have n1_ := Zm (below_drew1 HB.out)
                             clear HO_5
                             clear HB
                             have HO_5 := n0_
                             have HB := n1_
                             clear n0_ n1_
                             have p133 : 0 ≤ (x6_1 : Int) := Zo (by first | (with_reducible assumption) | assumption)
                             have q133 : x6_1 < (x5_2.length : Int) := Zo (by first | (with_reducible assumption) | assumption)
                             obtain ⟨ad133, A133_0, c133_0, e133, hx133_0, hl133_0, hi133_0⟩ := at_L9 (Kd.S_reads' HO_5.out).2.2 x6_1 p133 q133
                             obtain rfl : (⟨go11, 0, none⟩ : Addr) = ad133 := (by injection e133)
                             obtain ⟨ce133, hce133, hMe133, hcc133⟩ := Kd.S_get HO_5.out [] x6_1 p133 (by first | exact q133 | exact Zo (by first | (with_reducible assumption) | assumption) | (have e_ := (Kd.S_reads' HO_5.out).1; omega))
                             obtain ⟨ve133_0, rfl, ge133_0⟩ := hMe133
                             have hv133_0 := hcc133 0 _ rfl
                             rw [Nat.add_zero, show ((Kd.slice 21 (Kd.int .i32))).sz = 1 from rfl, Nat.mul_one] at hv133_0
                             replace hv133_0 := Option.some.inj (hv133_0.symm.trans hx133_0)
                             rw [hv133_0] at ge133_0
                             have HL133_0 := Zm (show Kd.R (Kd.int .i32) 21 _ _ _ _ (rd_L9 x5_2 x6_1) from ge133_0)
                             clear hv133_0 ge133_0
                             have HX133_0 := Zm hx133_0
                             clear hcc133 hce133
                             (first | simp only [add_plain] at hx133_0 | simp only [add_at] at hx133_0 | simp only [Addr.add, Nat.zero_add] at hx133_0 | skip)
                             have HR133_0 := Zm hi133_0
                             have HC133_0 := Zm hl133_0
                             clear hi133_0 hl133_0
                             replace p133 := eq_true p133
                             replace q133 := eq_true q133
                             have p134 : 0 ≤ ((ji49) : Int) := Zo (by first | (with_reducible assumption) | assumption)
                             have q134 : (ji49) < (x5_2.length : Int) := Zo (by first | (with_reducible assumption) | assumption)
                             obtain ⟨ad134, A134_0, c134_0, e134, hx134_0, hl134_0, hi134_0⟩ := at_L9 (Kd.S_reads' HO_5.out).2.2 (ji49) p134 q134
                             obtain rfl : (⟨go11, 0, none⟩ : Addr) = ad134 := (by injection e134)
                             obtain ⟨ce134, hce134, hMe134, hcc134⟩ := Kd.S_get HO_5.out [] (ji49) p134 (by first | exact q134 | exact Zo (by first | (with_reducible assumption) | assumption) | (have e_ := (Kd.S_reads' HO_5.out).1; omega))
                             obtain ⟨ve134_0, rfl, ge134_0⟩ := hMe134
                             have hv134_0 := hcc134 0 _ rfl
                             rw [Nat.add_zero, show ((Kd.slice 21 (Kd.int .i32))).sz = 1 from rfl, Nat.mul_one] at hv134_0
                             replace hv134_0 := Option.some.inj (hv134_0.symm.trans hx134_0)
                             rw [hv134_0] at ge134_0
                             have HL134_0 := Zm (show Kd.R (Kd.int .i32) 21 _ _ _ _ (rd_L9 x5_2 (ji49)) from ge134_0)
                             clear hv134_0 ge134_0
                             have HX134_0 := Zm hx134_0
                             clear hcc134 hce134
                             (first | simp only [add_plain] at hx134_0 | simp only [add_at] at hx134_0 | simp only [Addr.add, Nat.zero_add] at hx134_0 | skip)
                             have HR134_0 := Zm hi134_0
                             have HC134_0 := Zm hl134_0
                             clear hi134_0 hl134_0
                             replace p134 := eq_true p134
                             replace q134 := eq_true q134
                             have p135 : 0 ≤ (x7_2 : Int) := Zo (by first | (with_reducible assumption) | assumption)
                             have q135 : x7_2 < ((rd_L9 x5_2 (ji49)).length : Int) := Zo (by first | (with_reducible assumption) | assumption)
                             obtain ⟨ad135, e135, hx135_0⟩ := Kd.at_int (by repeat (first | (with_reducible exact HR134_0.out) | (with_reducible refine Kd.C_alloc ?_ _) | (with_reducible refine Kd.C_drewN ?_ _) | (with_reducible refine Kd.C_drew ?_) | exact HR134_0.out)) x7_2 p135 q135
                             cases e135
                             replace p135 := eq_true p135
                             replace q135 := eq_true q135
                             have p136 : 0 ≤ (x6_1 : Int) := Zo (by first | (with_reducible assumption) | assumption)
                             have q136 : x6_1 < (x5_2.length : Int) := Zo (by first | (with_reducible assumption) | assumption)
                             obtain ⟨ad136, A136_0, c136_0, e136, hx136_0, hl136_0, hi136_0⟩ := at_L9 (Kd.S_reads' HO_5.out).2.2 x6_1 p136 q136
                             obtain rfl : (⟨go11, 0, none⟩ : Addr) = ad136 := (by injection e136)
                             obtain ⟨ce136, hce136, hMe136, hcc136⟩ := Kd.S_get HO_5.out [] x6_1 p136 (by first | exact q136 | exact Zo (by first | (with_reducible assumption) | assumption) | (have e_ := (Kd.S_reads' HO_5.out).1; omega))
                             obtain ⟨ve136_0, rfl, ge136_0⟩ := hMe136
                             have hv136_0 := hcc136 0 _ rfl
                             rw [Nat.add_zero, show ((Kd.slice 21 (Kd.int .i32))).sz = 1 from rfl, Nat.mul_one] at hv136_0
                             replace hv136_0 := Option.some.inj (hv136_0.symm.trans hx136_0)
                             rw [hv136_0] at ge136_0
                             have HL136_0 := Zm (show Kd.R (Kd.int .i32) 21 _ _ _ _ (rd_L9 x5_2 x6_1) from ge136_0)
                             clear hv136_0 ge136_0
                             have HX136_0 := Zm hx136_0
                             clear hcc136 hce136
                             (first | simp only [add_plain] at hx136_0 | simp only [add_at] at hx136_0 | simp only [Addr.add, Nat.zero_add] at hx136_0 | skip)
                             have HR136_0 := Zm hi136_0
                             have HC136_0 := Zm hl136_0
                             clear hi136_0 hl136_0
                             replace p136 := eq_true p136
                             replace q136 := eq_true q136
                             have ea_ := Option.some.inj (hx133_0.symm.trans hx136_0)
                             injection ea_ with ea_ en_ ec_
                             subst ea_
                             subst ec_
                             clear en_
                             have p137 : 0 ≤ ((ji53) : Int) := Zo (by first | (with_reducible assumption) | assumption)
                             have q137 : (ji53) < ((rd_L9 x5_2 x6_1).length : Int) := Zo (by first | (with_reducible assumption) | assumption)
                             obtain ⟨ad137, e137, hx137_0⟩ := Kd.at_int (by repeat (first | (with_reducible exact HR136_0.out) | (with_reducible refine Kd.C_alloc ?_ _) | (with_reducible refine Kd.C_drewN ?_ _) | (with_reducible refine Kd.C_drew ?_) | exact HR136_0.out)) (ji53) p137 q137
                             cases e137
                             replace p137 := eq_true p137
                             replace q137 := eq_true q137
                             have p58 : 0 ≤ (x7_2 : Int) := Zo (by first | (with_reducible assumption) | assumption)
                             have q58 : (x7_2 : Int) < (((rd_L9 x5_2 x6_1).length : Int) : Int) := Zo (by first | (with_reducible assumption) | assumption)
                             obtain ⟨go58, co58, eo58, gb58, gl58, cl58, HG58⟩ := Kd.R_form HL133_0.out (by omega)
                             (first | cases eo58 | (injection eo58 with ea_ en_ ec_; (first | subst ea_ | (injection ea_ with ea_; subst ea_)); subst ec_; clear en_))
                             have GB58 := Zm gb58
                             have GG58 := Zm HG58
                             clear gb58 gl58 HG58
                             (first | simp only [add_plain] at hx137_0 | skip)
                             obtain ⟨hx58_0, hf58_0⟩ := Kd.R_celln 0 HL133_0.out (x7_2 : Int) p58 q58
                             replace p58 := eq_true p58
                             replace q58 := eq_true q58
                             have hq61 : (x6_1 : Int) < (x5_2.length : Int) := (by have h_ : (x6_1 : Int) < ((x5_2.length : Int) : Int) := Zo (by first | (with_reducible assumption) | assumption); first | exact h_ | (have e_ := (Kd.S_reads' HO_5.out).1; omega) | simpa only [List.length_set, List.length_set] using h_)
                             obtain ⟨oki61, ce61, hcl61, hM61, hcc61, hok61, hbk61⟩ := Kd.S_borrow HO_5.out [] (x6_1 : Int) (Zo (by first | (with_reducible assumption) | assumption)) hq61
                             obtain ⟨ve61_0, rfl, ge61_0⟩ := hM61
                             have hv61 := hcc61 0 _ rfl
                             rw [Nat.add_zero, show ((Kd.slice 21 (Kd.int .i32))).sz = 1 from rfl, Nat.mul_one] at hv61
                             replace hv61 := Option.some.inj (hv61.symm.trans HX133_0.out)
                             subst hv61
                             clear hcc61 hcl61
                             replace ge61_0 := (show Kd.R (Kd.int .i32) 21 _ _ _ _ (rd_L9 x5_2 x6_1) from ge61_0)
                             have HP61 := Kd.R_putg ge61_0 (x7_2 : Int) ji56
                             rw [← Ny138.out] at HP61
                             have HS61 := hbk61 HP61.2 (fun k_ e_ => by injection e_ with e_; subst e_; exact ge61_0.1 _ rfl) (x' := y138) (Kd.M_row HP61.1)
                             rw [← Ny140.out] at HS61
                             have HQ61 := Zm HS61
                             clear HP61 HS61 hbk61 hok61
                             refine start_ (n := 24) (S := fun w' => w'.cell? ⟨go11, (x6_1).toNat, none⟩ = some (.slice (some ⟨go58, 0, none⟩) (rd_L9 x5_2 x6_1).length c133_0) ∧ w'.cell? ⟨go11, ((ji49)).toNat, none⟩ = some (.slice (some ad135) (rd_L9 x5_2 (ji49)).length c134_0) ∧ w'.cell? (ad135.add (x7_2).toNat) = some (.int .i32 (rd (rd_L9 x5_2 (ji49)) x7_2)) ∧ w'.cell? ⟨go11, (x6_1).toNat, none⟩ = some (.slice (some ⟨go58, 0, none⟩) (rd_L9 x5_2 x6_1).length c133_0) ∧ w'.cell? ⟨go58, ((ji53)).toNat, none⟩ = some (.int .i32 (rd (rd_L9 x5_2 x6_1) (ji53)))) (ds := [23]) #[false, false, false, false, false, false, false, false, false, false, false, false, false, false, false, false, false, false, false, false, false, false, false, false] (by kernel_rfl) rfl rfl ⟨hx133_0, hx134_0, hx135_0, hx136_0, hx137_0⟩ (fun hHeld => ?_); refine with_tabW lcs_left.tab12 lcs_left.bits12 (fun HT_ HW_ => ?_)
                             generalize w59.drew = w60 at HO_5 HB GG58 HL133_0 HL134_0 HL136_0 HQ61 HR133_0 HR134_0 HR136_0 HX133_0 HX134_0 HX136_0 hf58_0 hx133_0 hx134_0 hx135_0 hx136_0 hx137_0 hx58_0 hHeld ⊢
                             refine pure_ (i := 0) (N := some 66) (v := ?_) (a' := ?_) #[true, false, false, false, false, false, false, false, false, false, false, false, false, false, false, false, false, false, false, false, false, false, false, false] rfl rfl (any_of HT_.out (by kernel_rfl)) (fun _ _ _ h => h) (Or.inl ⟨by rfl, ?_⟩) ?_ ?_
                             rotate_left
                             ·intro w'
                              go_simp
                              with_reducible rfl
                             rotate_left
                             ·simp only [Act.put, List.setIfInBounds_toArray, List.set_cons_zero, List.set_cons_succ, i64_w, i32_w]
                              rfl
                             refine pure_ (i := 1) (N := some 67) (v := ?_) (a' := ?_) #[true, true, false, false, false, false, false, false, false, false, false, false, false, false, false, false, false, false, false, false, false, false, false, false] rfl rfl (any_of HT_.out (by kernel_rfl)) (fun _ _ _ h => h) (Or.inl ⟨by rfl, ?_⟩) ?_ ?_
                             rotate_left
                             ·intro w'
                              go_simp
                              with_reducible rfl
                             rotate_left
                             ·simp only [Act.put, List.setIfInBounds_toArray, List.set_cons_zero, List.set_cons_succ, i64_w, i32_w]
                              rfl
                             refine pure_ (i := 2) (N := some 68) (v := ?_) (a' := ?_) #[true, true, true, false, false, false, false, false, false, false, false, false, false, false, false, false, false, false, false, false, false, false, false, false] rfl rfl (any_of HT_.out (by kernel_rfl)) (fun _ _ _ h => h) (Or.inl ⟨by rfl, ?_⟩) ?_ ?_
                             rotate_left
                             ·intro w'
                              go_simp
                              with_reducible rfl
                             rotate_left
                             ·simp only [Act.put, List.setIfInBounds_toArray, List.set_cons_zero, List.set_cons_succ, i64_w, i32_w]
                              rfl
                             refine pure_ (i := 4) (N := some 70) (v := ?_) (a' := ?_) #[true, true, true, false, true, false, false, false, false, false, false, false, false, false, false, false, false, false, false, false, false, false, false, false] rfl rfl (any_of HT_.out (by kernel_rfl)) (fun _ _ _ h => h) (Or.inl ⟨by rfl, ?_⟩) ?_ ?_
                             rotate_left
                             ·intro w'
                              go_simp
                              with_reducible rfl
                             rotate_left
                             ·simp only [Act.put, List.setIfInBounds_toArray, List.set_cons_zero, List.set_cons_succ, i64_w, i32_w]
                              rfl
                             refine pure_ (i := 5) (N := some 71) (v := ?_) (a' := ?_) #[true, true, true, false, true, true, false, false, false, false, false, false, false, false, false, false, false, false, false, false, false, false, false, false] rfl rfl (any_of HT_.out (by kernel_rfl)) (fun _ _ _ h => h) (Or.inl ⟨by rfl, ?_⟩) ?_ ?_
                             rotate_left
                             ·intro w'
                              go_simp
                              with_reducible rfl
                             rotate_left
                             ·simp only [Act.put, List.setIfInBounds_toArray, List.set_cons_zero, List.set_cons_succ, i64_w, i32_w]
                              rfl
                             refine pure_ (i := 6) (N := some 72) (v := ?_) (a' := ?_) #[true, true, true, false, true, true, true, false, false, false, false, false, false, false, false, false, false, false, false, false, false, false, false, false] rfl rfl (any_of HT_.out (by kernel_rfl)) (fun _ _ _ h => h) (Or.inl ⟨by rfl, ?_⟩) ?_ ?_
                             rotate_left
                             ·intro w'
                              go_simp
                              with_reducible rfl
                             rotate_left
                             ·simp only [Act.put, List.setIfInBounds_toArray, List.set_cons_zero, List.set_cons_succ, i64_w, i32_w]
                              rfl
                             refine pure_ (i := 7) (N := some 73) (v := ?_) (a' := ?_) #[true, true, true, false, true, true, true, true, false, false, false, false, false, false, false, false, false, false, false, false, false, false, false, false] rfl rfl (any_of HT_.out (by kernel_rfl)) (fun _ _ _ h => h) (Or.inl ⟨by rfl, ?_⟩) ?_ ?_
                             rotate_left
                             ·intro w'
                              go_simp
                              with_reducible rfl
                             rotate_left
                             ·simp only [Act.put, List.setIfInBounds_toArray, List.set_cons_zero, List.set_cons_succ, i64_w, i32_w]
                              rfl
                             refine pure_ (i := 8) (N := some 74) (v := ?_) (a' := ?_) #[true, true, true, false, true, true, true, true, true, false, false, false, false, false, false, false, false, false, false, false, false, false, false, false] rfl rfl (any_of HT_.out (by kernel_rfl)) (fun _ _ _ h => h) (Or.inl ⟨by rfl, ?_⟩) ?_ ?_
                             rotate_left
                             ·intro w'
                              go_simp
                              with_reducible rfl
                             rotate_left
                             ·simp only [Act.put, List.setIfInBounds_toArray, List.set_cons_zero, List.set_cons_succ, i64_w, i32_w]
                              rfl
                             refine pure_ (i := 10) (N := some 76) (v := ?_) (a' := ?_) #[true, true, true, false, true, true, true, true, true, false, true, false, false, false, false, false, false, false, false, false, false, false, false, false] rfl rfl (any_of HT_.out (by kernel_rfl)) (fun _ _ _ h => h) (Or.inl ⟨by rfl, ?_⟩) ?_ ?_
                             rotate_left
                             ·intro w'
                              go_simp
                              with_reducible rfl
                             rotate_left
                             ·simp only [Act.put, List.setIfInBounds_toArray, List.set_cons_zero, List.set_cons_succ, i64_w, i32_w]
                              rfl
                             refine pure_ (i := 13) (N := some 79) (v := ?_) (a' := ?_) #[true, true, true, false, true, true, true, true, true, false, true, false, false, true, false, false, false, false, false, false, false, false, false, false] rfl rfl (any_of HT_.out (by kernel_rfl)) (fun _ _ _ h => h) (Or.inl ⟨by rfl, ?_⟩) ?_ ?_
                             rotate_left
                             ·intro w'
                              go_simp
                              with_reducible rfl
                             rotate_left
                             ·simp only [Act.put, List.setIfInBounds_toArray, List.set_cons_zero, List.set_cons_succ, i64_w, i32_w]
                              rfl
                             refine pure_ (i := 14) (N := some 80) (v := ?_) (a' := ?_) #[true, true, true, false, true, true, true, true, true, false, true, false, false, true, true, false, false, false, false, false, false, false, false, false] rfl rfl (any_of HT_.out (by kernel_rfl)) (fun _ _ _ h => h) (Or.inl ⟨by rfl, ?_⟩) ?_ ?_
                             rotate_left
                             ·intro w'
                              go_simp
                              with_reducible rfl
                             rotate_left
                             ·simp only [Act.put, List.setIfInBounds_toArray, List.set_cons_zero, List.set_cons_succ, i64_w, i32_w]
                              rfl
                             refine pure_ (i := 15) (N := some 81) (v := ?_) (a' := ?_) #[true, true, true, false, true, true, true, true, true, false, true, false, false, true, true, true, false, false, false, false, false, false, false, false] rfl rfl (any_of HT_.out (by kernel_rfl)) (fun _ _ _ h => h) (Or.inl ⟨by rfl, ?_⟩) ?_ ?_
                             rotate_left
                             ·intro w'
                              go_simp
                              with_reducible rfl
                             rotate_left
                             ·simp only [Act.put, List.setIfInBounds_toArray, List.set_cons_zero, List.set_cons_succ, i64_w, i32_w]
                              rfl
                             refine pure_ (i := 17) (N := some 83) (v := ?_) (a' := ?_) #[true, true, true, false, true, true, true, true, true, false, true, false, false, true, true, true, false, true, false, false, false, false, false, false] rfl rfl (any_of HT_.out (by kernel_rfl)) (fun _ _ _ h => h) (Or.inl ⟨by rfl, ?_⟩) ?_ ?_
                             rotate_left
                             ·intro w'
                              go_simp
                              with_reducible rfl
                             rotate_left
                             ·simp only [Act.put, List.setIfInBounds_toArray, List.set_cons_zero, List.set_cons_succ, i64_w, i32_w]
                              rfl
                             refine pure_ (i := 18) (N := some 84) (v := ?_) (a' := ?_) #[true, true, true, false, true, true, true, true, true, false, true, false, false, true, true, true, false, true, true, false, false, false, false, false] rfl rfl (any_of HT_.out (by kernel_rfl)) (fun _ _ _ h => h) (Or.inl ⟨by rfl, ?_⟩) ?_ ?_
                             rotate_left
                             ·intro w'
                              go_simp
                              with_reducible rfl
                             rotate_left
                             ·simp only [Act.put, List.setIfInBounds_toArray, List.set_cons_zero, List.set_cons_succ, i64_w, i32_w]
                              rfl
                             refine take_ (i := 3) (N := some 69) (v := ?_) (a' := ?_) #[true, true, true, true, true, true, true, true, true, false, true, false, false, true, true, true, false, true, true, false, false, false, false, false] rfl rfl (take_ofW HT_.out HW_.out (by kernel_rfl)) (fun _ _ _ h => h) (Or.inl ⟨by rfl, ?_⟩) hHeld ?_ ?_
                             rotate_left
                             ·rintro w' ⟨s0, s1, s2, s3, s4⟩
                              go_simp
                              with_reducible rfl
                             rotate_left
                             ·simp only [Act.put, List.setIfInBounds_toArray, List.set_cons_zero, List.set_cons_succ, i64_w, i32_w]
                              rfl
                             refine take_ (i := 9) (N := some 75) (v := ?_) (a' := ?_) #[true, true, true, true, true, true, true, true, true, true, true, false, false, true, true, true, false, true, true, false, false, false, false, false] rfl rfl (take_ofW HT_.out HW_.out (by kernel_rfl)) (fun _ _ _ h => h) (Or.inl ⟨by rfl, ?_⟩) hHeld ?_ ?_
                             rotate_left
                             ·rintro w' ⟨s0, s1, s2, s3, s4⟩
                              go_simp
                              with_reducible rfl
                             rotate_left
                             ·simp only [Act.put, List.setIfInBounds_toArray, List.set_cons_zero, List.set_cons_succ, i64_w, i32_w]
                              rfl
                             refine pure_ (i := 11) (N := some 77) (v := ?_) (a' := ?_) #[true, true, true, true, true, true, true, true, true, true, true, true, false, true, true, true, false, true, true, false, false, false, false, false] rfl rfl (any_of HT_.out (by kernel_rfl)) (fun _ _ _ h => h) (Or.inl ⟨by rfl, ?_⟩) ?_ ?_
                             rotate_left
                             ·intro w'
                              go_simp
                              with_reducible rfl
                             rotate_left
                             ·simp only [Act.put, List.setIfInBounds_toArray, List.set_cons_zero, List.set_cons_succ, i64_w, i32_w]
                              rfl
                             refine take_ (i := 12) (N := some 78) (v := ?_) (a' := ?_) #[true, true, true, true, true, true, true, true, true, true, true, true, true, true, true, true, false, true, true, false, false, false, false, false] rfl rfl (take_ofW HT_.out HW_.out (by kernel_rfl)) (fun _ _ _ h => h) (Or.inl ⟨by rfl, ?_⟩) hHeld ?_ ?_
                             rotate_left
                             ·rintro w' ⟨s0, s1, s2, s3, s4⟩
                              go_simp
                              with_reducible rfl
                             rotate_left
                             ·simp only [Act.put, List.setIfInBounds_toArray, List.set_cons_zero, List.set_cons_succ, i64_w, i32_w]
                              rfl
                             refine take_ (i := 16) (N := some 82) (v := ?_) (a' := ?_) #[true, true, true, true, true, true, true, true, true, true, true, true, true, true, true, true, true, true, true, false, false, false, false, false] rfl rfl (take_ofW HT_.out HW_.out (by kernel_rfl)) (fun _ _ _ h => h) (Or.inl ⟨by rfl, ?_⟩) hHeld ?_ ?_
                             rotate_left
                             ·rintro w' ⟨s0, s1, s2, s3, s4⟩
                              go_simp
                              with_reducible rfl
                             rotate_left
                             ·simp only [Act.put, List.setIfInBounds_toArray, List.set_cons_zero, List.set_cons_succ, i64_w, i32_w]
                              rfl
                             refine pure_ (i := 19) (N := some 85) (v := ?_) (a' := ?_) #[true, true, true, true, true, true, true, true, true, true, true, true, true, true, true, true, true, true, true, true, false, false, false, false] rfl rfl (any_of HT_.out (by kernel_rfl)) (fun _ _ _ h => h) (Or.inl ⟨by rfl, ?_⟩) ?_ ?_
                             rotate_left
                             ·intro w'
                              go_simp
                              with_reducible rfl
                             rotate_left
                             ·simp only [Act.put, List.setIfInBounds_toArray, List.set_cons_zero, List.set_cons_succ, i64_w, i32_w]
                              rfl
                             refine take_ (i := 20) (N := some 86) (v := ?_) (a' := ?_) #[true, true, true, true, true, true, true, true, true, true, true, true, true, true, true, true, true, true, true, true, true, false, false, false] rfl rfl (take_ofW HT_.out HW_.out (by kernel_rfl)) (fun _ _ _ h => h) (Or.inl ⟨by rfl, ?_⟩) hHeld ?_ ?_
                             rotate_left
                             ·rintro w' ⟨s0, s1, s2, s3, s4⟩
                              go_simp
                              with_reducible rfl
                             rotate_left
                             ·simp only [Act.put, List.setIfInBounds_toArray, List.set_cons_zero, List.set_cons_succ, i64_w, i32_w]
                              rfl
                             refine pure_ (i := 21) (N := some 87) (v := ?_) (a' := ?_) #[true, true, true, true, true, true, true, true, true, true, true, true, true, true, true, true, true, true, true, true, true, true, false, false] rfl rfl (any_of HT_.out (by kernel_rfl)) (fun _ _ _ h => h) (Or.inl ⟨by rfl, ?_⟩) ?_ ?_
                             rotate_left
                             ·intro w'
                              go_simp
                              with_reducible rfl
                             rotate_left
                             ·simp only [Act.put, List.setIfInBounds_toArray, List.set_cons_zero, List.set_cons_succ, i64_w, i32_w]
                              rfl
                             refine pure_ (i := 22) (N := some 88) (v := ?_) (a' := ?_) #[true, true, true, true, true, true, true, true, true, true, true, true, true, true, true, true, true, true, true, true, true, true, true, false] rfl rfl (any_of HT_.out (by kernel_rfl)) (fun _ _ _ h => h) (Or.inl ⟨by rfl, ?_⟩) ?_ ?_
                             rotate_left
                             ·intro w'
                              go_simp
                              with_reducible rfl
                             rotate_left
                             ·simp only [Act.put, List.setIfInBounds_toArray, List.set_cons_zero, List.set_cons_succ, i64_w, i32_w]
                              rfl
                             refine last_ (i := 23) (N := none) #[true, true, true, true, true, true, true, true, true, true, true, true, true, true, true, true, true, true, true, true, true, true, true, true] rfl rfl (one_of HT_.out (by kernel_rfl)) (by decide) (fun K hK => ?_)
                             refine skip_ (w1 := ?_) (by rfl) rfl ?_ ?_
                             rotate_left
                             ·go_simp
                              rfl
                             refine hK.out _ _ ?_
                             clear hK K
                             refine done_ (done_of HT_.out (by kernel_rfl)) ?_
                             try go_wp2
                             (try simp only [← hl5_2])
                             go_roundg k2
                             case measure => have := HK1.out; have := HK2.out; omega
                             case rel => exact ⟨(y140), (wrap64 (x7_2 - 1)), (by first | rfl | (simp; done) | (simp [*]; done)), H', ⟨by have := HK1.out; have := HK2.out; omega⟩, ⟨by (try simp only [hl5_1]); (try simp only [hl5_2]); (with_reducible repeat (first | apply Kd.S_alloc | apply Kd.S_drewN | apply Kd.S_drew)); exact HQ61.out⟩, ⟨by repeat (first | (with_reducible first | exact HB.out | apply below_alloc | apply Zd | apply below_drew1 | refine below_set ?_ GB58.out) | exact HB.out)⟩⟩
                            ·rw [if_neg c57] at H
                             exact absurd H (by simp)
                           ·rw [if_neg c55] at H
                            exact absurd H (by simp)
                          ·rw [if_neg c54] at H
                           exact absurd H (by simp)
                         ·rw [if_neg c52] at H
                          exact absurd H (by simp)
                        ·rw [if_neg c51] at H
                         exact absurd H (by simp)
                       ·rw [if_neg c50] at H
                        exact absurd H (by simp)
                      ·rw [if_neg c48] at H
                       exact absurd H (by simp)
                    ·rw [if_neg c33] at H
                     exact absurd H (by simp)
                   ·rw [if_neg c32] at H
                    exact absurd H (by simp)
                  ·rw [if_neg c31] at H
                   exact absurd H (by simp)
                 ·rw [if_neg c30] at H
                  exact absurd H (by simp)
                ·rw [if_neg c29] at H
                 have c29b0 : decide (0 ≤ x7_2) = false := decide_eq_false c29
                 clear c29
                 have H' := Zm H
                 clear H
                 go_wp2
                 (try simp only [← hl5_1, ← hl5_2])
                 go_roundg k2
                 case measure => have := HK1.out; have := HK2.out; omega
                 case rel => exact ⟨(x5_2), (wrap64 (x6_1 - 1)), (by first | rfl | (simp; done) | (simp [*]; done)), H', ⟨by have := HK1.out; have := HK2.out; omega⟩, ⟨by (try simp only [hl5_1]); (try simp only [hl5_2]); (with_reducible repeat (first | apply Kd.S_alloc | apply Kd.S_drewN | apply Kd.S_drew)); exact HO_5.out⟩, ⟨by repeat (first | (with_reducible first | exact HB.out | apply below_alloc | apply Zd | apply below_drew1) | exact HB.out)⟩⟩
             ·rw [if_neg c23] at H
              exact absurd H (by simp)
            ·rw [if_neg c22] at H
             exact absurd H (by simp)
           ·rw [if_neg c21] at H
            exact absurd H (by simp)
          ·rw [if_neg c20] at H
           exact absurd H (by simp)
         ·rw [if_neg c18] at H
          have c18b0 : decide (0 ≤ x6_1) = false := decide_eq_false c18
          clear c18
          obtain rfl := Option.some.inj H
          go_wp2
          go_ret
          exact ⟨_, by first | rfl | (simp [errW_none, errW_some] <;> rfl) | (simp only [← hji3, ← hji6]; first | rfl | (simp [errW_none, errW_some] <;> rfl)) | (simp [*, errW_none, errW_some] <;> rfl), by (with_reducible repeat (first | apply Kd.S_alloc | apply Kd.S_drewN | apply Kd.S_drew)); exact HO_5.out, by repeat (first | (with_reducible first | exact HB.out | apply below_alloc | apply Zd | apply below_drew1) | exact HB.out)⟩
      ·rw [if_neg c10] at H
       exact absurd H (by simp)
     ·rw [if_neg c9] at H
      exact absurd H (by simp)
    ·rw [if_neg c8] at H
     exact absurd H (by simp)
   ·rw [if_neg c7] at H
    exact absurd H (by simp)
  ·rw [if_neg c5] at H
   exact absurd H (by simp)
 ·rw [if_neg c4] at H
  exact absurd H (by simp)
end Go.Proofs.Ytphghffdaceaoaa.PHunk
