/- Laid by a program of this session out of the seat's translation. -/
import Derived.Test.YtphghffdaceaoaaPHunkx0
namespace Go.Proofs.Ytphghffdaceaoaa.PHunk
open Go.RowKit Go.Proofs.YtphghffdaceaoaaW.PrintWords Go.Proofs.YtphghffdaceaoaaW.PrintLast Go.Proofs.YtphghffdaceaoaaW.PrintMore
attribute [local go_sem] max2_int min2_int max_two min_two max_three min_three max_four min_four   -- for this text's walks alone
set_option linter.unusedVariables false
set_option linter.unusedSimpArgs false
/-! ### lcs_none: function 37 -/
def lcs_none.l0 : Nat → List Int → Int → Int → Option (List Int)
 | 0, _, _, _ => none
 | k + 1, x3, x7, x8 => if x8 < x7 then (if 0 ≤ x8 then (if x8 < (x3.length : Int) then (lcs_none.l0 k (x3.set (x8 : Int).toNat (-1)) x7 (wrap64 (x8 + 1))) else (none)) else (none)) else (some x3)
def lcs_none.f (k : Nat) (a0 : Int) : Option (List Int) := if 0 ≤ a0 then (if (a0 : Int).toNat ≤ 35184372088832 then (lcs_none.l0 k (List.replicate (a0 : Int).toNat 0) a0 0) else (none)) else (none)
theorem lcs_none.mono_l : ∀ k, (∀ y0 y1 y2, LeO (lcs_none.l0 k y0 y1 y2) (lcs_none.l0 (k + 1) y0 y1 y2))
 | 0 => fun _ _ _ r h => by simp [lcs_none.l0] at h
 | k + 1 => by
  have ih0 := lcs_none.mono_l k
  ·intro y0 y1 y2
   unfold lcs_none.l0
   repeat' first
   | (with_reducible exact ih0 _ _ _)
   | (with_reducible exact LeO.refl _)
   | (with_reducible exact LeO.none _)
   | (with_reducible refine LeO.ite ?_ ?_)
   | (with_reducible refine LeO.bind ?_ (fun _ => ?_))
   | exact ih0 _ _ _
   | exact LeO.none _
   | refine LeO.ite ?_ ?_
   | refine LeO.bind ?_ (fun _ => ?_)
theorem lcs_none.mono : ∀ a0 k, LeO (lcs_none.f k a0) (lcs_none.f (k + 1) a0) := by
 intro a0 k
 have ih0 := lcs_none.mono_l k
 unfold lcs_none.f
 repeat' first
   | (with_reducible exact ih0 _ _ _)
   | (with_reducible exact LeO.refl _)
   | (with_reducible exact LeO.none _)
   | (with_reducible refine LeO.ite ?_ ?_)
   | (with_reducible refine LeO.bind ?_ (fun _ => ?_))
   | exact ih0 _ _ _
   | exact LeO.none _
   | refine LeO.ite ?_ ?_
   | refine LeO.bind ?_ (fun _ => ?_)
set_option maxHeartbeats 8000000 in
set_option maxRecDepth 100000 in
theorem lcs_none.calls (k : Nat) (a0 : Int) (r : List Int) (w : World) (h : lcs_none.f k a0 = some r) :
  Calls Try.prog 37 #[.int .i64 a0] w fun e w' => ∃ v0_ : Value, e = .returned (v0_) ∧ Kd.R (Kd.int .i64) 3 w' w.heap.size (fun _ => True) v0_ r ∧ Below w.heap.size w w' := by
 have HB := Zm (Below.refl w.heap.size w)
 have H : (if 0 ≤ a0 then (if (a0 : Int).toNat ≤ 35184372088832 then (lcs_none.l0 k (List.replicate (a0 : Int).toNat 0) a0 0) else (none)) else (none)) = some r := h
 clear h
 by_cases c2 : 0 ≤ a0
 ·rw [if_pos c2] at H
  have c2b0 := eq_true c2
  have c2b1 : decide (0 ≤ a0) = true := decide_eq_true c2
  clear c2
  by_cases c3 : (a0 : Int).toNat ≤ 35184372088832
  ·rw [if_pos c3] at H
   have c3b0 := eq_true c3
   have c3b1 : decide ((a0 : Int).toNat ≤ 35184372088832) = true := decide_eq_true c3
   clear c3
   obtain ⟨y104, hy104⟩ : ∃ y_ : List Int, y_ = (List.replicate (a0 : Int).toNat 0) := ⟨_, rfl⟩
   replace H : (lcs_none.l0 k y104 a0 0) = some r := by first | (rw [hy104]; with_reducible exact H) | (have H2_ := (Option.bind_some _ _).symm.trans H; rw [hy104]; with_reducible exact H2_) | (have H2_ := (Option.bind_some _ _).symm.trans H; with_reducible exact H2_) | with_reducible exact H | (rw [hy104]; exact H) | exact H
   have Ny104 := Zm hy104
   clear hy104
   have H' := Zm H
   clear H
   go_enter Try.func37, Try.ntmps37
   go_wp2_with (first | ((with_reducible refine gate_dst (N := 6) rfl ?_); refine Kd.R_make (Kd.int .i64) _ 3 rfl (N := 6) rfl 22 _ _ rfl a0 rfl rfl Try.underlying22 (.int .i64 0) 8 info3 rfl (by decide) (by omega) 0 (ok := fun _ => True) (okp := fun _ => True) rfl (fun _ hk => hk) trivial (Zo (by first | (with_reducible assumption) | assumption)) (Nat.le_trans (Nat.mul_le_mul_right _ (Zo (by first | (with_reducible assumption) | assumption) : a0.toNat ≤ 35184372088832)) (by omega)) (Below.refl _ _) (Nat.le_refl _) ?_; intro v105 w4 ho5 hb hg_ hnew_; clear hg_ hnew_; (first | rw [← Ny104.out] at ho5 | (simp only [Int.reduceToNat] at ho5; rw [← Ny104.out] at ho5)); have n0_ := Zm (Kd.R_lower ho5 (below_size (by repeat (first | (with_reducible first | exact HB.out | apply below_alloc | apply Zd | apply below_drew1) | exact HB.out)))); have n1_ := Zm (below_step (by repeat (first | (with_reducible first | exact HB.out | apply below_alloc | apply Zd | apply below_drew1) | exact HB.out)) hb); clear HB; have HO106 := n0_; have HB := n1_; clear n0_ n1_; clear hb ho5))
   go_loopg [8] k (fun kq v8 w' => ∃ (x3_1 : List Int) (x8_1 : Int), v8 = .int .i64 x8_1 ∧ Aside0 (lcs_none.l0 kq x3_1 a0 x8_1 = some r) ∧ Aside0 (kq ≤ k) ∧ Aside0 (Kd.R (Kd.int .i64) 3 w' w.heap.size (fun _ => True) v105 x3_1) ∧ Aside0 (Below w.heap.size w w'))
   case atStart => exact ⟨(y104), (0), (by first | rfl | (simp; done) | (simp [*]; done)), H', ⟨Nat.le_refl _⟩, ⟨by (with_reducible repeat (first | apply Kd.R_alloc | apply Kd.R_drewN | apply Kd.R_drew)); first | exact HO106.out | exact Kd.R_mono HO106.out (fun _ _ => trivial)⟩, ⟨by repeat (first | (with_reducible first | exact HB.out | apply below_alloc | apply Zd | apply below_drew1) | exact HB.out)⟩⟩
   case round =>
    clear H'
    try clear c2
    try clear c2b0
    try clear c2b1
    try clear p2
    try clear c3
    try clear c3b0
    try clear c3b1
    obtain ⟨x3_1, x8_1, rfl, HA, HK1, HO_3, HB⟩ := hrel
    cases gk with
    | zero => exact absurd HA.out (by simp [lcs_none.l0])
    | succ k1 =>
     have H := HA.out
     clear HA
     simp only [lcs_none.l0] at H
     by_cases c6 : x8_1 < a0
     ·rw [if_pos c6] at H
      have c6b0 : decide (x8_1 < a0) = true := decide_eq_true c6
      clear c6
      by_cases c7 : 0 ≤ x8_1
      ·rw [if_pos c7] at H
       have c7b0 : decide (0 ≤ x8_1) = true := decide_eq_true c7
       clear c7
       by_cases c8 : x8_1 < (x3_1.length : Int)
       ·rw [if_pos c8] at H
        have c8b0 : decide (x8_1 < (x3_1.length : Int)) = true := decide_eq_true c8
        clear c8
        obtain ⟨y107, hy107⟩ : ∃ y_ : List Int, y_ = (x3_1.set (x8_1 : Int).toNat (-1)) := ⟨_, rfl⟩
        replace H : (lcs_none.l0 k1 y107 a0 (wrap64 (x8_1 + 1))) = some r := by first | (rw [hy107]; with_reducible exact H) | (have H2_ := (Option.bind_some _ _).symm.trans H; rw [hy107]; with_reducible exact H2_) | (have H2_ := (Option.bind_some _ _).symm.trans H; with_reducible exact H2_) | with_reducible exact H | (rw [hy107]; exact H) | exact H
        have Ny107 := Zm hy107
        clear hy107
        have H' := Zm H
        clear H
        have p9 : 0 ≤ (x8_1 : Int) := Zo (by first | (with_reducible assumption) | assumption)
        have q9 : (x8_1 : Int) < ((x3_1.length : Int) : Int) := Zo (by first | (with_reducible assumption) | assumption)
        obtain ⟨go9, co9, eo9, gb9, gl9, cl9, HG9⟩ := Kd.R_form HO_3.out (by omega)
        (first | cases eo9 | (injection eo9 with ea_ en_ ec_; (first | subst ea_ | (injection ea_ with ea_; subst ea_)); subst ec_; clear en_))
        have GB9 := Zm gb9
        have GG9 := Zm HG9
        clear gb9 gl9 HG9
        obtain ⟨hx9_0, hf9_0⟩ := Kd.R_celln 0 HO_3.out (x8_1 : Int) p9 q9
        replace p9 := eq_true p9
        replace q9 := eq_true q9
        have HP10 := Kd.R_putg HO_3.out (x8_1 : Int) (-1)
        go_wp2_with (first | ((with_reducible refine gate_store (t := 3) (p := 13) rfl ?_); refine store_event (t := 3) (p := 13) (v := ?vo_w11) (w1 := (wr.setCell ⟨go9, (x8_1 : Int).toNat, none⟩ (.int .i64 (-1)))) ?hg ?ho ?hn ?hr ?_; (case ho => rfl); (case hg => rfl); (case hn => rfl); (case hr => first | (go_simp; done) | (go_simp; rfl)); intro w11 hw; have hg : wr.grownBy w11 (some go9) := (by rw [hw]; exact HP10.2); have hp_ : Kd.R (Kd.int .i64) 3 w11 w.heap.size (fun _ => True) (.slice (some ⟨go9, 0, none⟩) x3_1.length co9) y107 := (by rw [hw, Ny107.out]; exact HP10.1); clear HP10; have n0_ := Zm (hp_); have n1_ := Zm ((by rw [hw]; exact below_set (HB.out) GB9.out : Below w.heap.size w w11)); clear HO_3; clear HB; have HO_3 := n0_; have HB := n1_; clear n0_ n1_; clear hg hw hp_))
        go_roundg k1
        case measure => have := HK1.out; omega
        case rel => exact ⟨(y107), (wrap64 (x8_1 + 1)), (by first | rfl | (simp; done) | (simp [*]; done)), H', ⟨by have := HK1.out; omega⟩, ⟨by (with_reducible repeat (first | apply Kd.R_alloc | apply Kd.R_drewN | apply Kd.R_drew)); first | exact HO_3.out | exact Kd.R_mono HO_3.out (fun _ _ => trivial)⟩, ⟨by repeat (first | (with_reducible first | exact HB.out | apply below_alloc | apply Zd | apply below_drew1) | exact HB.out)⟩⟩
       ·rw [if_neg c8] at H
        exact absurd H (by simp)
      ·rw [if_neg c7] at H
       exact absurd H (by simp)
     ·rw [if_neg c6] at H
      have c6b0 : decide (x8_1 < a0) = false := decide_eq_false c6
      clear c6
      obtain rfl := Option.some.inj H
      go_wp2
      go_ret
      exact ⟨_, by first | rfl | (simp [errW_none, errW_some] <;> rfl) | (simp [*, errW_none, errW_some] <;> rfl), by (with_reducible repeat (first | apply Kd.R_alloc | apply Kd.R_drewN | apply Kd.R_drew)); exact HO_3.out, by repeat (first | (with_reducible first | exact HB.out | apply below_alloc | apply Zd | apply below_drew1) | exact HB.out)⟩
  ·rw [if_neg c3] at H
   exact absurd H (by simp)
 ·rw [if_neg c2] at H
  exact absurd H (by simp)
/-! ### lcs_ends: function 38 -/
mutual
def lcs_ends.j1 : Nat → List Int → List Int → List Int → Int → Option (Int × Int × List Int)
 | 0, _, _, _, _ => none
 | k + 1, x0, x1, x2, x8 => lcs_ends.l1 k x0 x1 x2 x8 0
def lcs_ends.j3 : Nat → List Int → List Int → List Int → Int → Int → Option (Int × Int × List Int)
 | 0, _, _, _, _, _ => none
 | k + 1, x0, x1, x2, x8, x9 => lcs_ends.l2 k x0 x1 x2 x8 x9 x9 0
def lcs_ends.l2 : Nat → List Int → List Int → List Int → Int → Int → Int → Int → Option (Int × Int × List Int)
 | 0, _, _, _, _, _, _, _ => none
 | k + 1, x0, x1, x2, x8, x9, x65, x66 => if x66 < x65 then (if 0 ≤ (wrap64 ((wrap64 ((x0.length : Int) - 1)) - x66)) then (if (wrap64 ((wrap64 ((x0.length : Int) - 1)) - x66)) < (x2.length : Int) then (lcs_ends.l2 k x0 x1 (x2.set ((wrap64 ((wrap64 ((x0.length : Int) - 1)) - x66)) : Int).toNat (wrap64 ((wrap64 ((x1.length : Int) - 1)) - x66))) x8 x9 x65 (wrap64 (x66 + 1))) else (none)) else (none)) else (some (x8, x9, x2))
def lcs_ends.l1 : Nat → List Int → List Int → List Int → Int → Int → Option (Int × Int × List Int)
 | 0, _, _, _, _, _ => none
 | k + 1, x0, x1, x2, x8, x9 => if x9 < (wrap64 ((mn (x0.length : Int) (x1.length : Int)) - x8)) then (if 0 ≤ (wrap64 ((wrap64 ((x0.length : Int) - 1)) - x9)) then (if (wrap64 ((wrap64 ((x0.length : Int) - 1)) - x9)) < (x0.length : Int) then (if 0 ≤ (wrap64 ((wrap64 ((x1.length : Int) - 1)) - x9)) then (if (wrap64 ((wrap64 ((x1.length : Int) - 1)) - x9)) < (x1.length : Int) then (if (rd x0 (wrap64 ((wrap64 ((x0.length : Int) - 1)) - x9))) = (rd x1 (wrap64 ((wrap64 ((x1.length : Int) - 1)) - x9))) then (lcs_ends.l1 k x0 x1 x2 x8 (wrap64 (x9 + 1))) else (lcs_ends.j3 k x0 x1 x2 x8 x9)) else (none)) else (none)) else (none)) else (none)) else (lcs_ends.j3 k x0 x1 x2 x8 x9)
def lcs_ends.l0 : Nat → List Int → List Int → List Int → Int → Option (Int × Int × List Int)
 | 0, _, _, _, _ => none
 | k + 1, x0, x1, x2, x8 => if x8 < (mn (x0.length : Int) (x1.length : Int)) then (if 0 ≤ x8 then (if x8 < (x0.length : Int) then (if x8 < (x1.length : Int) then (if (rd x0 x8) = (rd x1 x8) then (if x8 < (x2.length : Int) then (lcs_ends.l0 k x0 x1 (x2.set (x8 : Int).toNat x8) (wrap64 (x8 + 1))) else (none)) else (lcs_ends.j1 k x0 x1 x2 x8)) else (none)) else (none)) else (none)) else (lcs_ends.j1 k x0 x1 x2 x8)
end
def lcs_ends.f (k : Nat) (l0 : List Int) (l1 : List Int) (l2 : List Int) : Option (Int × Int × List Int) := lcs_ends.l0 k l0 l1 l2 0
theorem lcs_ends.mono_l : ∀ k, (∀ y0 y1 y2 y3, LeO (lcs_ends.j1 k y0 y1 y2 y3) (lcs_ends.j1 (k + 1) y0 y1 y2 y3)) ∧ (∀ y0 y1 y2 y3 y4, LeO (lcs_ends.j3 k y0 y1 y2 y3 y4) (lcs_ends.j3 (k + 1) y0 y1 y2 y3 y4)) ∧ (∀ y0 y1 y2 y3 y4 y5 y6, LeO (lcs_ends.l2 k y0 y1 y2 y3 y4 y5 y6) (lcs_ends.l2 (k + 1) y0 y1 y2 y3 y4 y5 y6)) ∧ (∀ y0 y1 y2 y3 y4, LeO (lcs_ends.l1 k y0 y1 y2 y3 y4) (lcs_ends.l1 (k + 1) y0 y1 y2 y3 y4)) ∧ (∀ y0 y1 y2 y3, LeO (lcs_ends.l0 k y0 y1 y2 y3) (lcs_ends.l0 (k + 1) y0 y1 y2 y3))
 | 0 => ⟨fun _ _ _ _ r h => by simp [lcs_ends.j1] at h, fun _ _ _ _ _ r h => by simp [lcs_ends.j3] at h, fun _ _ _ _ _ _ _ r h => by simp [lcs_ends.l2] at h, fun _ _ _ _ _ r h => by simp [lcs_ends.l1] at h, fun _ _ _ _ r h => by simp [lcs_ends.l0] at h⟩
 | k + 1 => by
  obtain ⟨ih0, ih1, ih2, ih3, ih4⟩ := lcs_ends.mono_l k
  refine ⟨?_, ?_, ?_, ?_, ?_⟩
  ·intro y0 y1 y2 y3
   unfold lcs_ends.j1
   repeat' first
   | (with_reducible exact ih0 _ _ _ _)
   | (with_reducible exact ih1 _ _ _ _ _)
   | (with_reducible exact ih2 _ _ _ _ _ _ _)
   | (with_reducible exact ih3 _ _ _ _ _)
   | (with_reducible exact ih4 _ _ _ _)
   | (with_reducible exact LeO.refl _)
   | (with_reducible exact LeO.none _)
   | (with_reducible refine LeO.ite ?_ ?_)
   | (with_reducible refine LeO.bind ?_ (fun _ => ?_))
   | exact ih0 _ _ _ _
   | exact ih1 _ _ _ _ _
   | exact ih2 _ _ _ _ _ _ _
   | exact ih3 _ _ _ _ _
   | exact ih4 _ _ _ _
   | exact LeO.none _
   | refine LeO.ite ?_ ?_
   | refine LeO.bind ?_ (fun _ => ?_)
  ·intro y0 y1 y2 y3 y4
   unfold lcs_ends.j3
   repeat' first
   | (with_reducible exact ih0 _ _ _ _)
   | (with_reducible exact ih1 _ _ _ _ _)
   | (with_reducible exact ih2 _ _ _ _ _ _ _)
   | (with_reducible exact ih3 _ _ _ _ _)
   | (with_reducible exact ih4 _ _ _ _)
   | (with_reducible exact LeO.refl _)
   | (with_reducible exact LeO.none _)
   | (with_reducible refine LeO.ite ?_ ?_)
   | (with_reducible refine LeO.bind ?_ (fun _ => ?_))
   | exact ih0 _ _ _ _
   | exact ih1 _ _ _ _ _
   | exact ih2 _ _ _ _ _ _ _
   | exact ih3 _ _ _ _ _
   | exact ih4 _ _ _ _
   | exact LeO.none _
   | refine LeO.ite ?_ ?_
   | refine LeO.bind ?_ (fun _ => ?_)
  ·intro y0 y1 y2 y3 y4 y5 y6
   unfold lcs_ends.l2
   repeat' first
   | (with_reducible exact ih0 _ _ _ _)
   | (with_reducible exact ih1 _ _ _ _ _)
   | (with_reducible exact ih2 _ _ _ _ _ _ _)
   | (with_reducible exact ih3 _ _ _ _ _)
   | (with_reducible exact ih4 _ _ _ _)
   | (with_reducible exact LeO.refl _)
   | (with_reducible exact LeO.none _)
   | (with_reducible refine LeO.ite ?_ ?_)
   | (with_reducible refine LeO.bind ?_ (fun _ => ?_))
   | exact ih0 _ _ _ _
   | exact ih1 _ _ _ _ _
   | exact ih2 _ _ _ _ _ _ _
   | exact ih3 _ _ _ _ _
   | exact ih4 _ _ _ _
   | exact LeO.none _
   | refine LeO.ite ?_ ?_
   | refine LeO.bind ?_ (fun _ => ?_)
  ·intro y0 y1 y2 y3 y4
   unfold lcs_ends.l1
   repeat' first
   | (with_reducible exact ih0 _ _ _ _)
   | (with_reducible exact ih1 _ _ _ _ _)
   | (with_reducible exact ih2 _ _ _ _ _ _ _)
   | (with_reducible exact ih3 _ _ _ _ _)
   | (with_reducible exact ih4 _ _ _ _)
   | (with_reducible exact LeO.refl _)
   | (with_reducible exact LeO.none _)
   | (with_reducible refine LeO.ite ?_ ?_)
   | (with_reducible refine LeO.bind ?_ (fun _ => ?_))
   | exact ih0 _ _ _ _
   | exact ih1 _ _ _ _ _
   | exact ih2 _ _ _ _ _ _ _
   | exact ih3 _ _ _ _ _
   | exact ih4 _ _ _ _
   | exact LeO.none _
   | refine LeO.ite ?_ ?_
   | refine LeO.bind ?_ (fun _ => ?_)
  ·intro y0 y1 y2 y3
   unfold lcs_ends.l0
   repeat' first
   | (with_reducible exact ih0 _ _ _ _)
   | (with_reducible exact ih1 _ _ _ _ _)
   | (with_reducible exact ih2 _ _ _ _ _ _ _)
   | (with_reducible exact ih3 _ _ _ _ _)
   | (with_reducible exact ih4 _ _ _ _)
   | (with_reducible exact LeO.refl _)
   | (with_reducible exact LeO.none _)
   | (with_reducible refine LeO.ite ?_ ?_)
   | (with_reducible refine LeO.bind ?_ (fun _ => ?_))
   | exact ih0 _ _ _ _
   | exact ih1 _ _ _ _ _
   | exact ih2 _ _ _ _ _ _ _
   | exact ih3 _ _ _ _ _
   | exact ih4 _ _ _ _
   | exact LeO.none _
   | refine LeO.ite ?_ ?_
   | refine LeO.bind ?_ (fun _ => ?_)
theorem lcs_ends.mono : ∀ a0 a1 a2 k, LeO (lcs_ends.f k a0 a1 a2) (lcs_ends.f (k + 1) a0 a1 a2) := by
 intro a0 a1 a2 k
 obtain ⟨ih0, ih1, ih2, ih3, ih4⟩ := lcs_ends.mono_l k
 unfold lcs_ends.f
 repeat' first
   | (with_reducible exact ih0 _ _ _ _)
   | (with_reducible exact ih1 _ _ _ _ _)
   | (with_reducible exact ih2 _ _ _ _ _ _ _)
   | (with_reducible exact ih3 _ _ _ _ _)
   | (with_reducible exact ih4 _ _ _ _)
   | (with_reducible exact LeO.refl _)
   | (with_reducible exact LeO.none _)
   | (with_reducible refine LeO.ite ?_ ?_)
   | (with_reducible refine LeO.bind ?_ (fun _ => ?_))
   | exact ih0 _ _ _ _
   | exact ih1 _ _ _ _ _
   | exact ih2 _ _ _ _ _ _ _
   | exact ih3 _ _ _ _ _
   | exact ih4 _ _ _ _
   | exact LeO.none _
   | refine LeO.ite ?_ ?_
   | refine LeO.bind ?_ (fun _ => ?_)
set_option maxHeartbeats 8000000 in
set_option maxRecDepth 100000 in
theorem lcs_ends.calls (k : Nat) (A0 : Option Addr) (c0 : Nat) (l0 : List Int) (A1 : Option Addr) (c1 : Nat) (l1 : List Int) (P2_ : Nat → Prop) (u9000_ : Value) (l2 : List Int) (r1 : Int) (r2 : Int) (r3 : List Int) (w0 w : World) (hB : Below w0.heap.size w0 w) (hr0 : ∀ W_, Kept w W_ (fun k_ => P2_ k_) → Kd.C (Kd.int .i64) W_ A0 l0.length l0) (hc0 : l0.length ≤ c0) (hr1 : ∀ W_, Kept w W_ (fun k_ => P2_ k_) → Kd.C (Kd.int .i64) W_ A1 l1.length l1) (hc1 : l1.length ≤ c1) (ho2 : Kd.R (Kd.int .i64) 3 w w0.heap.size P2_ u9000_ l2) (h : lcs_ends.f k l0 l1 l2 = some (r1, r2, r3)) :
  Calls Try.prog 38 #[.slice A0 l0.length c0, .slice A1 l1.length c1, u9000_] w fun e w' => e = .returned (.tuple #[.int .i64 r1, .int .i64 r2]) ∧ Kd.R (Kd.int .i64) 3 w' w0.heap.size (fun k_ => (P2_ k_ ∨ w.heap.size ≤ k_)) u9000_ r3 ∧ Below w0.heap.size w0 w' ∧ Kept w w' (fun k_ => P2_ k_) := by
 have HR0 := Zm hr0
 have HC0 := Zm hc0
 clear hr0 hc0
 have HR1 := Zm hr1
 have HC1 := Zm hc1
 clear hr1 hc1
 have HO2 := Zm (show Kd.R (Kd.int .i64) 3 w w0.heap.size (fun k_ => (P2_ k_ ∨ w.heap.size ≤ k_)) u9000_ l2 from Kd.R_mono ho2 (fun k_ hk => (.inl hk)))
 have HK := Zm (Kept.refl w (fun k_ => P2_ k_))
 have HW0 := Zm hB.size
 have HB := Zm hB
 clear hB
 have H : (lcs_ends.l0 k l0 l1 l2 0) = some (r1, r2, r3) := h
 clear h
 have HC4 := Zm H
 clear H
 go_enter Try.func38, Try.ntmps38
 go_upto_block 0 with (fail)
 repeat (go_quiet (fail); go_upto_block 0 with (fail))
 go_cut [8] (fun v8 wc => ∃ (kq : Nat) (x2_3 : List Int) (x8_3 : Int), v8 = .int .i64 x8_3 ∧ Aside0 (lcs_ends.j1 kq l0 l1 x2_3 x8_3 = some (r1, r2, r3)) ∧ Aside0 (kq ≤ k) ∧ Aside0 (Kd.R (Kd.int .i64) 3 wc w0.heap.size (fun k_ => (P2_ k_ ∨ w.heap.size ≤ k_)) u9000_ x2_3) ∧ Aside0 (Kept w wc (fun k_ => P2_ k_)) ∧ Aside0 (Below w0.heap.size w0 wc))
 case first =>
  have H := HC4.out
  clear HC4
  have H' := Zm H
  clear H
  go_wp2
  repeat (go_quiet (fail); try go_wp2)
  go_loopg [8] k (fun kq v8 w' => ∃ (x2_1 : List Int) (x8_1 : Int), v8 = .int .i64 x8_1 ∧ Aside0 (lcs_ends.l0 kq l0 l1 x2_1 x8_1 = some (r1, r2, r3)) ∧ Aside0 (kq ≤ k) ∧ Aside0 (Kd.R (Kd.int .i64) 3 w' w0.heap.size (fun k_ => (P2_ k_ ∨ w.heap.size ≤ k_)) u9000_ x2_1) ∧ Aside0 (Kept w w' (fun k_ => P2_ k_)) ∧ Aside0 (Below w0.heap.size w0 w'))
  case atStart => exact ⟨(l2), (0), (by first | rfl | (simp; done) | (simp [*]; done)), H', ⟨Nat.le_refl _⟩, ⟨by (with_reducible repeat (first | apply Kd.R_alloc | apply Kd.R_drewN | apply Kd.R_drew)); first | exact HO2.out | exact Kd.R_mono HO2.out (fun _ _ => trivial)⟩, ⟨by repeat (first | (with_reducible first | exact HK.out | apply Kept.alloc | apply Kept.drewN | apply Kept.drew) | exact HK.out)⟩, ⟨by repeat (first | (with_reducible first | exact HB.out | apply below_alloc | apply Zd | apply below_drew1) | exact HB.out)⟩⟩
  case round =>
   clear H'
   try clear c1
   try clear p2
   try clear c3
   obtain ⟨x2_1, x8_1, rfl, HA, HK1, HO_2, HK, HB⟩ := hrel
   cases gk with
   | zero => exact absurd HA.out (by simp [lcs_ends.l0])
   | succ k1 =>
    have H := HA.out
    clear HA
    simp only [lcs_ends.l0] at H
    obtain ⟨ji5, hji5⟩ : ∃ j_ : Int, (mn (l0.length : Int) (l1.length : Int)) = j_ := ⟨_, rfl⟩
    replace H : (if x8_1 < (ji5) then (if 0 ≤ x8_1 then (if x8_1 < (l0.length : Int) then (if x8_1 < (l1.length : Int) then (if (rd l0 x8_1) = (rd l1 x8_1) then (if x8_1 < (x2_1.length : Int) then (lcs_ends.l0 k1 l0 l1 (x2_1.set (x8_1 : Int).toNat x8_1) (wrap64 (x8_1 + 1))) else (none)) else (lcs_ends.j1 k1 l0 l1 x2_1 x8_1)) else (none)) else (none)) else (none)) else (lcs_ends.j1 k1 l0 l1 x2_1 x8_1)) = some (r1, r2, r3) := by first | (rw [hji5] at H; exact H) | (simp only [hji5] at H ⊢; exact H)
    have hji5_ : (if (l1.length : Int) < (l0.length : Int) then (l1.length : Int) else (l0.length : Int)) = ji5 := hji5
    have hji5n_ : (if l1.length < l0.length then (l1.length : Int) else (l0.length : Int)) = ji5 := by simpa only [Int.ofNat_lt] using hji5_
    by_cases c6 : x8_1 < (ji5)
    ·rw [if_pos c6] at H
     have c6b0 : decide (x8_1 < (ji5)) = true := decide_eq_true c6
     clear c6
     (first | rw [c6b0] | (simp only [i64_w, i32_w]; rw [c6b0]) | skip)
     by_cases c7 : 0 ≤ x8_1
     ·rw [if_pos c7] at H
      have c7b0 : decide (0 ≤ x8_1) = true := decide_eq_true c7
      clear c7
      by_cases c8 : x8_1 < (l0.length : Int)
      ·rw [if_pos c8] at H
       have c8b0 : decide (x8_1 < (l0.length : Int)) = true := decide_eq_true c8
       clear c8
       by_cases c9 : x8_1 < (l1.length : Int)
       ·rw [if_pos c9] at H
        have c9b0 : decide (x8_1 < (l1.length : Int)) = true := decide_eq_true c9
        clear c9
        by_cases c10 : (rd l0 x8_1) = (rd l1 x8_1)
        ·rw [if_pos c10] at H
         have c10b0 : ((rd l0 x8_1) == (rd l1 x8_1)) = true := beq_iff_eq.mpr c10
         have c10b1 : ((rd l0 x8_1) != (rd l1 x8_1)) = false := bne_eq_false_iff_eq.mpr c10
         clear c10
         by_cases c11 : x8_1 < (x2_1.length : Int)
         ·rw [if_pos c11] at H
          have c11b0 : decide (x8_1 < (x2_1.length : Int)) = true := decide_eq_true c11
          clear c11
          obtain ⟨y110, hy110⟩ : ∃ y_ : List Int, y_ = (x2_1.set (x8_1 : Int).toNat x8_1) := ⟨_, rfl⟩
          replace H : (lcs_ends.l0 k1 l0 l1 y110 (wrap64 (x8_1 + 1))) = some (r1, r2, r3) := by first | (rw [hy110]; with_reducible exact H) | (have H2_ := (Option.bind_some _ _).symm.trans H; rw [hy110]; with_reducible exact H2_) | (have H2_ := (Option.bind_some _ _).symm.trans H; with_reducible exact H2_) | with_reducible exact H | (rw [hy110]; exact H) | exact H
          have Ny110 := Zm hy110
          clear hy110
          have H' := Zm H
          clear H
          have p108 : 0 ≤ (x8_1 : Int) := Zo (by first | (with_reducible assumption) | assumption)
          have q108 : x8_1 < (l0.length : Int) := Zo (by first | (with_reducible assumption) | assumption)
          obtain ⟨ad108, e108, hx108_0⟩ := Kd.at_int (Kd.C_kept_now HR0.out HK.out) x8_1 p108 q108
          cases e108
          replace p108 := eq_true p108
          replace q108 := eq_true q108
          have p109 : 0 ≤ (x8_1 : Int) := Zo (by first | (with_reducible assumption) | assumption)
          have q109 : x8_1 < (l1.length : Int) := Zo (by first | (with_reducible assumption) | assumption)
          obtain ⟨ad109, e109, hx109_0⟩ := Kd.at_int (Kd.C_kept_now HR1.out HK.out) x8_1 p109 q109
          cases e109
          replace p109 := eq_true p109
          replace q109 := eq_true q109
          have p12 : 0 ≤ (x8_1 : Int) := Zo (by first | (with_reducible assumption) | assumption)
          have q12 : (x8_1 : Int) < ((x2_1.length : Int) : Int) := Zo (by first | (with_reducible assumption) | assumption)
          obtain ⟨go12, co12, eo12, gb12, gl12, cl12, HG12⟩ := Kd.R_form HO_2.out (by omega)
          (first | cases eo12 | (injection eo12 with ea_ en_ ec_; (first | subst ea_ | (injection ea_ with ea_; subst ea_)); subst ec_; clear en_))
          have GB12 := Zm gb12
          have GG12 := Zm HG12
          clear gb12 gl12 HG12
          have HMgo12 := Zm (show (P2_ go12 ∨ w.heap.size ≤ go12) from (HO_2.out.1 _ rfl))
          obtain ⟨hx12_0, hf12_0⟩ := Kd.R_celln 0 HO_2.out (x8_1 : Int) p12 q12
          replace p12 := eq_true p12
          replace q12 := eq_true q12
          have HP13 := Kd.R_putg HO_2.out (x8_1 : Int) x8_1
          go_wp2_with (first | ((with_reducible refine gate_store (t := 3) (p := 32) rfl ?_); (try (rw [drewN_self wr]; generalize hq_ : World.drewN wr _ = wr; have n0_ := Zm (Kd.R_at hq_ HO_2.out); have n1_ := Zm (kept_at hq_ HK.out); have n2_ := Zm (below_at hq_ HB.out); clear hq_ HO_2 HK HB; have HO_2 := n0_; have HK := n1_; have HB := n2_; clear n0_ n1_ n2_; (try (have HP13 := Kd.R_putg HO_2.out (x8_1 : Int) x8_1)); (try (obtain ⟨hx12_0, hf12_0⟩ := Kd.R_celln 0 HO_2.out (x8_1 : Int) (of_eq_true p12) (of_eq_true q12))))); refine store_event (t := 3) (p := 32) (v := ?vo_w14) (w1 := (wr.setCell ⟨go12, (x8_1 : Int).toNat, none⟩ (.int .i64 x8_1))) ?hg ?ho ?hn ?hr ?_; (case ho => rfl); (case hg => rfl); (case hn => rfl); (case hr => first | (go_simp; done) | (go_simp; rfl)); intro w14 hw; have hg : wr.grownBy w14 (some go12) := (by rw [hw]; exact HP13.2); have hp_ : Kd.R (Kd.int .i64) 3 w14 w0.heap.size (fun k_ => (P2_ k_ ∨ w.heap.size ≤ k_)) (.slice (some ⟨go12, 0, none⟩) x2_1.length co12) y110 := (by rw [hw, Ny110.out]; exact HP13.1); clear HP13; have n0_ := Zm (hp_); have n1_ := Zm ((by rw [hw]; exact below_set (HB.out) GB12.out : Below w0.heap.size w0 w14)); have n2_ := Zm (Kept.of_grown (S := (fun k_ => P2_ k_)) hg (by repeat (first | (with_reducible first | exact HK.out | apply Kept.alloc | apply Kept.drewN | apply Kept.drew) | exact HK.out)) (fun k_ e_ => (HO_2.out.1 k_ e_))); clear HO_2; clear HB; clear HK; have HO_2 := n0_; have HB := n1_; have HK := n2_; clear n0_ n1_ n2_; clear hg hw hp_))
          repeat (go_quiet (first | ((with_reducible refine gate_store (t := 3) (p := 32) rfl ?_); (try (rw [drewN_self wr]; generalize hq_ : World.drewN wr _ = wr; have n0_ := Zm (Kd.R_at hq_ HO_2.out); have n1_ := Zm (kept_at hq_ HK.out); have n2_ := Zm (below_at hq_ HB.out); clear hq_ HO_2 HK HB; have HO_2 := n0_; have HK := n1_; have HB := n2_; clear n0_ n1_ n2_; (try (have HP13 := Kd.R_putg HO_2.out (x8_1 : Int) x8_1)); (try (obtain ⟨hx12_0, hf12_0⟩ := Kd.R_celln 0 HO_2.out (x8_1 : Int) (of_eq_true p12) (of_eq_true q12))))); refine store_event (t := 3) (p := 32) (v := ?vo_w14) (w1 := (wr.setCell ⟨go12, (x8_1 : Int).toNat, none⟩ (.int .i64 x8_1))) ?hg ?ho ?hn ?hr ?_; (case ho => rfl); (case hg => rfl); (case hn => rfl); (case hr => first | (go_simp; done) | (go_simp; rfl)); intro w14 hw; have hg : wr.grownBy w14 (some go12) := (by rw [hw]; exact HP13.2); have hp_ : Kd.R (Kd.int .i64) 3 w14 w0.heap.size (fun k_ => (P2_ k_ ∨ w.heap.size ≤ k_)) (.slice (some ⟨go12, 0, none⟩) x2_1.length co12) y110 := (by rw [hw, Ny110.out]; exact HP13.1); clear HP13; have n0_ := Zm (hp_); have n1_ := Zm ((by rw [hw]; exact below_set (HB.out) GB12.out : Below w0.heap.size w0 w14)); have n2_ := Zm (Kept.of_grown (S := (fun k_ => P2_ k_)) hg (by repeat (first | (with_reducible first | exact HK.out | apply Kept.alloc | apply Kept.drewN | apply Kept.drew) | exact HK.out)) (fun k_ e_ => (HO_2.out.1 k_ e_))); clear HO_2; clear HB; clear HK; have HO_2 := n0_; have HB := n1_; have HK := n2_; clear n0_ n1_ n2_; clear hg hw hp_)); try go_wp2_with (first | ((with_reducible refine gate_store (t := 3) (p := 32) rfl ?_); (try (rw [drewN_self wr]; generalize hq_ : World.drewN wr _ = wr; have n0_ := Zm (Kd.R_at hq_ HO_2.out); have n1_ := Zm (kept_at hq_ HK.out); have n2_ := Zm (below_at hq_ HB.out); clear hq_ HO_2 HK HB; have HO_2 := n0_; have HK := n1_; have HB := n2_; clear n0_ n1_ n2_; (try (have HP13 := Kd.R_putg HO_2.out (x8_1 : Int) x8_1)); (try (obtain ⟨hx12_0, hf12_0⟩ := Kd.R_celln 0 HO_2.out (x8_1 : Int) (of_eq_true p12) (of_eq_true q12))))); refine store_event (t := 3) (p := 32) (v := ?vo_w14) (w1 := (wr.setCell ⟨go12, (x8_1 : Int).toNat, none⟩ (.int .i64 x8_1))) ?hg ?ho ?hn ?hr ?_; (case ho => rfl); (case hg => rfl); (case hn => rfl); (case hr => first | (go_simp; done) | (go_simp; rfl)); intro w14 hw; have hg : wr.grownBy w14 (some go12) := (by rw [hw]; exact HP13.2); have hp_ : Kd.R (Kd.int .i64) 3 w14 w0.heap.size (fun k_ => (P2_ k_ ∨ w.heap.size ≤ k_)) (.slice (some ⟨go12, 0, none⟩) x2_1.length co12) y110 := (by rw [hw, Ny110.out]; exact HP13.1); clear HP13; have n0_ := Zm (hp_); have n1_ := Zm ((by rw [hw]; exact below_set (HB.out) GB12.out : Below w0.heap.size w0 w14)); have n2_ := Zm (Kept.of_grown (S := (fun k_ => P2_ k_)) hg (by repeat (first | (with_reducible first | exact HK.out | apply Kept.alloc | apply Kept.drewN | apply Kept.drew) | exact HK.out)) (fun k_ e_ => (HO_2.out.1 k_ e_))); clear HO_2; clear HB; clear HK; have HO_2 := n0_; have HB := n1_; have HK := n2_; clear n0_ n1_ n2_; clear hg hw hp_)))
          go_roundg k1
          case measure => have := HK1.out; omega
          case rel => exact ⟨(y110), (wrap64 (x8_1 + 1)), (by first | rfl | (simp; done) | (simp [*]; done)), H', ⟨by have := HK1.out; omega⟩, ⟨by (with_reducible repeat (first | apply Kd.R_alloc | apply Kd.R_drewN | apply Kd.R_drew)); first | exact HO_2.out | exact Kd.R_mono HO_2.out (fun _ _ => trivial)⟩, ⟨by repeat (first | (with_reducible first | exact HK.out | apply Kept.alloc | apply Kept.drewN | apply Kept.drew) | exact HK.out)⟩, ⟨by repeat (first | (with_reducible first | exact HB.out | apply below_alloc | apply Zd | apply below_drew1) | exact HB.out)⟩⟩
         ·rw [if_neg c11] at H
          exact absurd H (by simp)
        ·rw [if_neg c10] at H
         have c10b0 : ((rd l0 x8_1) == (rd l1 x8_1)) = false := beq_eq_false_iff_ne.mpr c10
         have c10b1 : ((rd l0 x8_1) != (rd l1 x8_1)) = true := bne_iff_ne.mpr c10
         have H' := Zm H
         clear H
         have p108 : 0 ≤ (x8_1 : Int) := Zo (by first | (with_reducible assumption) | assumption)
         have q108 : x8_1 < (l0.length : Int) := Zo (by first | (with_reducible assumption) | assumption)
         obtain ⟨ad108, e108, hx108_0⟩ := Kd.at_int (Kd.C_kept_now HR0.out HK.out) x8_1 p108 q108
         cases e108
         replace p108 := eq_true p108
         replace q108 := eq_true q108
         have p109 : 0 ≤ (x8_1 : Int) := Zo (by first | (with_reducible assumption) | assumption)
         have q109 : x8_1 < (l1.length : Int) := Zo (by first | (with_reducible assumption) | assumption)
         obtain ⟨ad109, e109, hx109_0⟩ := Kd.at_int (Kd.C_kept_now HR1.out HK.out) x8_1 p109 q109
         cases e109
         replace p109 := eq_true p109
         replace q109 := eq_true q109
         go_wp2
         repeat (go_quiet (fail); try go_wp2)
         go_meet
         case rel => exact ⟨_, (x2_1), (x8_1), (by first | rfl | (simp; done) | (simp [*]; done)), H', ⟨by have := HK1.out; first | omega | exact Nat.le_refl _⟩, ⟨by (with_reducible repeat (first | apply Kd.R_alloc | apply Kd.R_drewN | apply Kd.R_drew)); first | exact HO_2.out | exact Kd.R_mono HO_2.out (fun _ _ => trivial)⟩, ⟨by repeat (first | (with_reducible first | exact HK.out | apply Kept.alloc | apply Kept.drewN | apply Kept.drew) | exact HK.out)⟩, ⟨by repeat (first | (with_reducible first | exact HB.out | apply below_alloc | apply Zd | apply below_drew1) | exact HB.out)⟩⟩
       ·rw [if_neg c9] at H
        exact absurd H (by simp)
      ·rw [if_neg c8] at H
       exact absurd H (by simp)
     ·rw [if_neg c7] at H
      exact absurd H (by simp)
    ·rw [if_neg c6] at H
     have c6b0 : decide (x8_1 < (ji5)) = false := decide_eq_false c6
     clear c6
     (first | rw [c6b0] | (simp only [i64_w, i32_w]; rw [c6b0]) | skip)
     have H' := Zm H
     clear H
     go_wp2
     repeat (go_quiet (fail); try go_wp2)
     go_meet
     case rel => exact ⟨_, (x2_1), (x8_1), (by first | rfl | (simp; done) | (simp [*]; done)), H', ⟨by have := HK1.out; first | omega | exact Nat.le_refl _⟩, ⟨by (with_reducible repeat (first | apply Kd.R_alloc | apply Kd.R_drewN | apply Kd.R_drew)); first | exact HO_2.out | exact Kd.R_mono HO_2.out (fun _ _ => trivial)⟩, ⟨by repeat (first | (with_reducible first | exact HK.out | apply Kept.alloc | apply Kept.drewN | apply Kept.drew) | exact HK.out)⟩, ⟨by repeat (first | (with_reducible first | exact HB.out | apply below_alloc | apply Zd | apply below_drew1) | exact HB.out)⟩⟩
 case rest =>
  clear HC4
  try clear c1
  try clear p1
  try clear q1
  try clear hx1
  try clear p2
  try clear c3
  try clear c6
  try clear c6b0
  try clear p6
  try clear c7
  try clear c7b0
  try clear c8
  try clear c8b0
  try clear c9
  try clear c9b0
  try clear c10
  try clear c10b0
  try clear c10b1
  try clear p10
  try clear q10
  try clear hx10
  try clear c11
  try clear c11b0
  try clear p12
  try clear q12
  try clear hx12
  try clear hf12
  try clear hx108_0
  try clear hx109_0
  try clear hx12_0
  try clear p108
  try clear p109
  try clear p12
  try clear p2
  try clear q108
  try clear q109
  try clear q12
  obtain ⟨kq, x2_3, x8_3, rfl, HA, HJ3, HO_2, HK, HB⟩ := hcut
  cases kq with
  | zero => exact absurd HA.out (by simp [lcs_ends.j1])
  | succ kj3 =>
   have H := HA.out
   clear HA
   simp only [lcs_ends.j1] at H
   have HC15 := Zm H
   clear H
   go_upto_block 2 with (fail)
   repeat (go_quiet (fail); go_upto_block 2 with (fail))
   go_cut [9] (fun v9 wc => ∃ (kq : Nat) (x9_14 : Int), v9 = .int .i64 x9_14 ∧ Aside0 (lcs_ends.j3 kq l0 l1 x2_3 x8_3 x9_14 = some (r1, r2, r3)) ∧ Aside0 (kq ≤ kj3) ∧ Aside0 (Kd.R (Kd.int .i64) 3 wc w0.heap.size (fun k_ => (P2_ k_ ∨ w.heap.size ≤ k_)) u9000_ x2_3) ∧ Aside0 (Kept w wc (fun k_ => P2_ k_)) ∧ Aside0 (Below w0.heap.size w0 wc))
   case first =>
    have H := HC15.out
    clear HC15
    have H' := Zm H
    clear H
    go_wp2
    repeat (go_quiet (fail); try go_wp2)
    go_loopg [9] kj3 (fun kq v9 w' => ∃ (x9_2 : Int), v9 = .int .i64 x9_2 ∧ Aside0 (lcs_ends.l1 kq l0 l1 x2_3 x8_3 x9_2 = some (r1, r2, r3)) ∧ Aside0 (kq ≤ kj3) ∧ Aside0 (Kd.R (Kd.int .i64) 3 w' w0.heap.size (fun k_ => (P2_ k_ ∨ w.heap.size ≤ k_)) u9000_ x2_3) ∧ Aside0 (Kept w w' (fun k_ => P2_ k_)) ∧ Aside0 (Below w0.heap.size w0 w'))
    case atStart => exact ⟨(0), (by first | rfl | (simp; done) | (simp [*]; done)), H', ⟨Nat.le_refl _⟩, ⟨by (with_reducible repeat (first | apply Kd.R_alloc | apply Kd.R_drewN | apply Kd.R_drew)); first | exact HO_2.out | exact Kd.R_mono HO_2.out (fun _ _ => trivial)⟩, ⟨by repeat (first | (with_reducible first | exact HK.out | apply Kept.alloc | apply Kept.drewN | apply Kept.drew) | exact HK.out)⟩, ⟨by repeat (first | (with_reducible first | exact HB.out | apply below_alloc | apply Zd | apply below_drew1) | exact HB.out)⟩⟩
    case round =>
     clear H'
     try clear c1
     try clear p1
     try clear q1
     try clear hx1
     try clear p2
     try clear c3
     try clear c6
     try clear c6b0
     try clear p6
     try clear c7
     try clear c7b0
     try clear c8
     try clear c8b0
     try clear c9
     try clear c9b0
     try clear c10
     try clear c10b0
     try clear c10b1
     try clear p10
     try clear q10
     try clear hx10
     try clear c11
     try clear c11b0
     try clear p12
     try clear q12
     try clear hx12
     try clear hf12
     try clear hx108_0
     try clear hx109_0
     try clear hx12_0
     try clear p1
     try clear p10
     try clear p108
     try clear p109
     try clear p12
     try clear p2
     try clear p6
     try clear q1
     try clear q10
     try clear q108
     try clear q109
     try clear q12
     obtain ⟨x9_2, rfl, HA, HK2, HO_2, HK, HB⟩ := hrel
     cases gk with
     | zero => exact absurd HA.out (by simp [lcs_ends.l1])
     | succ k2 =>
      have H := HA.out
      clear HA
      simp only [lcs_ends.l1] at H
      obtain ⟨ji16, hji16⟩ : ∃ j_ : Int, (mn (l0.length : Int) (l1.length : Int)) = j_ := ⟨_, rfl⟩
      replace H : (if x9_2 < (wrap64 ((ji16) - x8_3)) then (if 0 ≤ (wrap64 ((wrap64 ((l0.length : Int) - 1)) - x9_2)) then (if (wrap64 ((wrap64 ((l0.length : Int) - 1)) - x9_2)) < (l0.length : Int) then (if 0 ≤ (wrap64 ((wrap64 ((l1.length : Int) - 1)) - x9_2)) then (if (wrap64 ((wrap64 ((l1.length : Int) - 1)) - x9_2)) < (l1.length : Int) then (if (rd l0 (wrap64 ((wrap64 ((l0.length : Int) - 1)) - x9_2))) = (rd l1 (wrap64 ((wrap64 ((l1.length : Int) - 1)) - x9_2))) then (lcs_ends.l1 k2 l0 l1 x2_3 x8_3 (wrap64 (x9_2 + 1))) else (lcs_ends.j3 k2 l0 l1 x2_3 x8_3 x9_2)) else (none)) else (none)) else (none)) else (none)) else (lcs_ends.j3 k2 l0 l1 x2_3 x8_3 x9_2)) = some (r1, r2, r3) := by first | (rw [hji16] at H; exact H) | (simp only [hji16] at H ⊢; exact H)
      have hji16_ : (if (l1.length : Int) < (l0.length : Int) then (l1.length : Int) else (l0.length : Int)) = ji16 := hji16
      have hji16n_ : (if l1.length < l0.length then (l1.length : Int) else (l0.length : Int)) = ji16 := by simpa only [Int.ofNat_lt] using hji16_
      by_cases c17 : x9_2 < (wrap64 ((ji16) - x8_3))
      ·rw [if_pos c17] at H
       have c17b0 : decide (x9_2 < (wrap64 ((ji16) - x8_3))) = true := decide_eq_true c17
       clear c17
       (first | rw [c17b0] | (simp only [i64_w, i32_w]; rw [c17b0]) | skip)
       obtain ⟨ji18, hji18⟩ : ∃ j_ : Int, (wrap64 ((wrap64 ((l0.length : Int) - 1)) - x9_2)) = j_ := ⟨_, rfl⟩
       replace H : (if 0 ≤ (ji18) then (if (ji18) < (l0.length : Int) then (if 0 ≤ (wrap64 ((wrap64 ((l1.length : Int) - 1)) - x9_2)) then (if (wrap64 ((wrap64 ((l1.length : Int) - 1)) - x9_2)) < (l1.length : Int) then (if (rd l0 (ji18)) = (rd l1 (wrap64 ((wrap64 ((l1.length : Int) - 1)) - x9_2))) then (lcs_ends.l1 k2 l0 l1 x2_3 x8_3 (wrap64 (x9_2 + 1))) else (lcs_ends.j3 k2 l0 l1 x2_3 x8_3 x9_2)) else (none)) else (none)) else (none)) else (none)) = some (r1, r2, r3) := by first | (rw [hji18] at H; exact H) | (simp only [hji18] at H ⊢; exact H)
       have hji18w : (IntKind.i64.wrap ((wrap64 ((l0.length : Int) - 1)) - x9_2)) = ji18 := (i64_w _).trans hji18
       by_cases c19 : 0 ≤ (ji18)
       ·rw [if_pos c19] at H
        have c19b0 : decide (0 ≤ (ji18)) = true := decide_eq_true c19
        clear c19
        by_cases c20 : (ji18) < (l0.length : Int)
        ·rw [if_pos c20] at H
         have c20b0 : decide ((ji18) < (l0.length : Int)) = true := decide_eq_true c20
         clear c20
         obtain ⟨ji21, hji21⟩ : ∃ j_ : Int, (wrap64 ((wrap64 ((l1.length : Int) - 1)) - x9_2)) = j_ := ⟨_, rfl⟩
         replace H : (if 0 ≤ (ji21) then (if (ji21) < (l1.length : Int) then (if (rd l0 (ji18)) = (rd l1 (ji21)) then (lcs_ends.l1 k2 l0 l1 x2_3 x8_3 (wrap64 (x9_2 + 1))) else (lcs_ends.j3 k2 l0 l1 x2_3 x8_3 x9_2)) else (none)) else (none)) = some (r1, r2, r3) := by first | (rw [hji21] at H; exact H) | (simp only [hji21] at H ⊢; exact H)
         have hji21w : (IntKind.i64.wrap ((wrap64 ((l1.length : Int) - 1)) - x9_2)) = ji21 := (i64_w _).trans hji21
         by_cases c22 : 0 ≤ (ji21)
         ·rw [if_pos c22] at H
          have c22b0 : decide (0 ≤ (ji21)) = true := decide_eq_true c22
          clear c22
          by_cases c23 : (ji21) < (l1.length : Int)
          ·rw [if_pos c23] at H
           have c23b0 : decide ((ji21) < (l1.length : Int)) = true := decide_eq_true c23
           clear c23
           by_cases c24 : (rd l0 (ji18)) = (rd l1 (ji21))
           ·rw [if_pos c24] at H
            have c24b0 : ((rd l0 (ji18)) == (rd l1 (ji21))) = true := beq_iff_eq.mpr c24
            have c24b1 : ((rd l0 (ji18)) != (rd l1 (ji21))) = false := bne_eq_false_iff_eq.mpr c24
            clear c24
            have H' := Zm H
            clear H
            have p111 : 0 ≤ ((ji18) : Int) := Zo (by first | (with_reducible assumption) | assumption)
            have q111 : (ji18) < (l0.length : Int) := Zo (by first | (with_reducible assumption) | assumption)
            obtain ⟨ad111, e111, hx111_0⟩ := Kd.at_int (Kd.C_kept_now HR0.out HK.out) (ji18) p111 q111
            cases e111
            replace p111 := eq_true p111
            replace q111 := eq_true q111
            have p112 : 0 ≤ ((ji21) : Int) := Zo (by first | (with_reducible assumption) | assumption)
            have q112 : (ji21) < (l1.length : Int) := Zo (by first | (with_reducible assumption) | assumption)
            obtain ⟨ad112, e112, hx112_0⟩ := Kd.at_int (Kd.C_kept_now HR1.out HK.out) (ji21) p112 q112
            cases e112
            replace p112 := eq_true p112
            replace q112 := eq_true q112
            go_wp2
            repeat (go_quiet (fail); try go_wp2)
            go_roundg k2
            case measure => have := HJ3.out; have := HK2.out; omega
            case rel => exact ⟨(wrap64 (x9_2 + 1)), (by first | rfl | (simp; done) | (simp [*]; done)), H', ⟨by have := HJ3.out; have := HK2.out; omega⟩, ⟨by (with_reducible repeat (first | apply Kd.R_alloc | apply Kd.R_drewN | apply Kd.R_drew)); first | exact HO_2.out | exact Kd.R_mono HO_2.out (fun _ _ => trivial)⟩, ⟨by repeat (first | (with_reducible first | exact HK.out | apply Kept.alloc | apply Kept.drewN | apply Kept.drew) | exact HK.out)⟩, ⟨by repeat (first | (with_reducible first | exact HB.out | apply below_alloc | apply Zd | apply below_drew1) | exact HB.out)⟩⟩
           ·rw [if_neg c24] at H
            have c24b0 : ((rd l0 (ji18)) == (rd l1 (ji21))) = false := beq_eq_false_iff_ne.mpr c24
            have c24b1 : ((rd l0 (ji18)) != (rd l1 (ji21))) = true := bne_iff_ne.mpr c24
            have H' := Zm H
            clear H
            have p111 : 0 ≤ ((ji18) : Int) := Zo (by first | (with_reducible assumption) | assumption)
            have q111 : (ji18) < (l0.length : Int) := Zo (by first | (with_reducible assumption) | assumption)
            obtain ⟨ad111, e111, hx111_0⟩ := Kd.at_int (Kd.C_kept_now HR0.out HK.out) (ji18) p111 q111
            cases e111
            replace p111 := eq_true p111
            replace q111 := eq_true q111
            have p112 : 0 ≤ ((ji21) : Int) := Zo (by first | (with_reducible assumption) | assumption)
            have q112 : (ji21) < (l1.length : Int) := Zo (by first | (with_reducible assumption) | assumption)
            obtain ⟨ad112, e112, hx112_0⟩ := Kd.at_int (Kd.C_kept_now HR1.out HK.out) (ji21) p112 q112
            cases e112
            replace p112 := eq_true p112
            replace q112 := eq_true q112
            go_wp2
            repeat (go_quiet (fail); try go_wp2)
            go_meet
            case rel => exact ⟨_, (x9_2), (by first | rfl | (simp; done) | (simp [*]; done)), H', ⟨by have := HJ3.out; have := HK2.out; first | omega | exact Nat.le_refl _⟩, ⟨by (with_reducible repeat (first | apply Kd.R_alloc | apply Kd.R_drewN | apply Kd.R_drew)); first | exact HO_2.out | exact Kd.R_mono HO_2.out (fun _ _ => trivial)⟩, ⟨by repeat (first | (with_reducible first | exact HK.out | apply Kept.alloc | apply Kept.drewN | apply Kept.drew) | exact HK.out)⟩, ⟨by repeat (first | (with_reducible first | exact HB.out | apply below_alloc | apply Zd | apply below_drew1) | exact HB.out)⟩⟩
          ·rw [if_neg c23] at H
           exact absurd H (by simp)
         ·rw [if_neg c22] at H
          exact absurd H (by simp)
        ·rw [if_neg c20] at H
         exact absurd H (by simp)
       ·rw [if_neg c19] at H
        exact absurd H (by simp)
      ·rw [if_neg c17] at H
       have c17b0 : decide (x9_2 < (wrap64 ((ji16) - x8_3))) = false := decide_eq_false c17
       clear c17
       (first | rw [c17b0] | (simp only [i64_w, i32_w]; rw [c17b0]) | skip)
       have H' := Zm H
       clear H
       go_wp2
       repeat (go_quiet (fail); try go_wp2)
       go_meet
       case rel => exact ⟨_, (x9_2), (by first | rfl | (simp; done) | (simp [*]; done)), H', ⟨by have := HJ3.out; have := HK2.out; first | omega | exact Nat.le_refl _⟩, ⟨by (with_reducible repeat (first | apply Kd.R_alloc | apply Kd.R_drewN | apply Kd.R_drew)); first | exact HO_2.out | exact Kd.R_mono HO_2.out (fun _ _ => trivial)⟩, ⟨by repeat (first | (with_reducible first | exact HK.out | apply Kept.alloc | apply Kept.drewN | apply Kept.drew) | exact HK.out)⟩, ⟨by repeat (first | (with_reducible first | exact HB.out | apply below_alloc | apply Zd | apply below_drew1) | exact HB.out)⟩⟩
   case rest =>
    clear HC15
    try clear c1
    try clear p1
    try clear q1
    try clear hx1
    try clear c2
    try clear p2
    try clear c3
    try clear c6
    try clear c6b0
    try clear p6
    try clear c7
    try clear c7b0
    try clear c8
    try clear c8b0
    try clear c9
    try clear c9b0
    try clear c10
    try clear c10b0
    try clear c10b1
    try clear p10
    try clear q10
    try clear hx10
    try clear c11
    try clear c11b0
    try clear p11
    try clear q11
    try clear hx11
    try clear p12
    try clear q12
    try clear hx12
    try clear hf12
    try clear c17
    try clear c17b0
    try clear c19
    try clear c19b0
    try clear c20
    try clear c20b0
    try clear c22
    try clear c22b0
    try clear c23
    try clear c23b0
    try clear c24
    try clear c24b0
    try clear c24b1
    try clear hx108_0
    try clear hx109_0
    try clear hx111_0
    try clear hx112_0
    try clear hx12_0
    try clear p1
    try clear p10
    try clear p108
    try clear p109
    try clear p111
    try clear p112
    try clear p12
    try clear p2
    try clear p6
    try clear q1
    try clear q10
    try clear q108
    try clear q109
    try clear q111
    try clear q112
    try clear q12
    obtain ⟨kq, x9_14, rfl, HA, HJ14, HO_2, HK, HB⟩ := hcut
    cases kq with
    | zero => exact absurd HA.out (by simp [lcs_ends.j3])
    | succ kj14 =>
     have H := HA.out
     clear HA
     simp only [lcs_ends.j3] at H
     have H' := Zm H
     clear H
     go_wp2
     repeat (go_quiet (fail); try go_wp2)
     go_loopg [66] kj14 (fun kq v66 w' => ∃ (x2_3 : List Int) (x66_3 : Int), v66 = .int .i64 x66_3 ∧ Aside0 (lcs_ends.l2 kq l0 l1 x2_3 x8_3 x9_14 x9_14 x66_3 = some (r1, r2, r3)) ∧ Aside0 (kq ≤ kj14) ∧ Aside0 (Kd.R (Kd.int .i64) 3 w' w0.heap.size (fun k_ => (P2_ k_ ∨ w.heap.size ≤ k_)) u9000_ x2_3) ∧ Aside0 (Kept w w' (fun k_ => P2_ k_)) ∧ Aside0 (Below w0.heap.size w0 w'))
     case atStart => exact ⟨(x2_3), (0), (by first | rfl | (simp; done) | (simp [*]; done)), H', ⟨Nat.le_refl _⟩, ⟨by (with_reducible repeat (first | apply Kd.R_alloc | apply Kd.R_drewN | apply Kd.R_drew)); first | exact HO_2.out | exact Kd.R_mono HO_2.out (fun _ _ => trivial)⟩, ⟨by repeat (first | (with_reducible first | exact HK.out | apply Kept.alloc | apply Kept.drewN | apply Kept.drew) | exact HK.out)⟩, ⟨by repeat (first | (with_reducible first | exact HB.out | apply below_alloc | apply Zd | apply below_drew1) | exact HB.out)⟩⟩
     case round =>
      clear H'
      try clear c1
      try clear p1
      try clear q1
      try clear hx1
      try clear c2
      try clear p2
      try clear c3
      try clear c6
      try clear c6b0
      try clear p6
      try clear c7
      try clear c7b0
      try clear c8
      try clear c8b0
      try clear c9
      try clear c9b0
      try clear c10
      try clear c10b0
      try clear c10b1
      try clear p10
      try clear q10
      try clear hx10
      try clear c11
      try clear c11b0
      try clear p11
      try clear q11
      try clear hx11
      try clear p12
      try clear q12
      try clear hx12
      try clear hf12
      try clear c17
      try clear c17b0
      try clear c19
      try clear c19b0
      try clear c20
      try clear c20b0
      try clear c22
      try clear c22b0
      try clear c23
      try clear c23b0
      try clear c24
      try clear c24b0
      try clear c24b1
      try clear hx108_0
      try clear hx109_0
      try clear hx111_0
      try clear hx112_0
      try clear hx12_0
      try clear p1
      try clear p10
      try clear p108
      try clear p109
      try clear p11
      try clear p111
      try clear p112
      try clear p12
      try clear p2
      try clear p6
      try clear q1
      try clear q10
      try clear q108
      try clear q109
      try clear q11
      try clear q111
      try clear q112
      try clear q12
      obtain ⟨x2_3, x66_3, rfl, HA, HK3, HO_2, HK, HB⟩ := hrel
      cases gk with
      | zero => exact absurd HA.out (by simp [lcs_ends.l2])
      | succ k3 =>
       have H := HA.out
       clear HA
       simp only [lcs_ends.l2] at H
       by_cases c25 : x66_3 < x9_14
       ·rw [if_pos c25] at H
        have c25b0 : decide (x66_3 < x9_14) = true := decide_eq_true c25
        clear c25
        obtain ⟨ji26, hji26⟩ : ∃ j_ : Int, (wrap64 ((wrap64 ((l0.length : Int) - 1)) - x66_3)) = j_ := ⟨_, rfl⟩
        replace H : (if 0 ≤ (ji26) then (if (ji26) < (x2_3.length : Int) then (lcs_ends.l2 k3 l0 l1 (x2_3.set ((ji26) : Int).toNat (wrap64 ((wrap64 ((l1.length : Int) - 1)) - x66_3))) x8_3 x9_14 x9_14 (wrap64 (x66_3 + 1))) else (none)) else (none)) = some (r1, r2, r3) := by first | (rw [hji26] at H; exact H) | (simp only [hji26] at H ⊢; exact H)
        have hji26w : (IntKind.i64.wrap ((wrap64 ((l0.length : Int) - 1)) - x66_3)) = ji26 := (i64_w _).trans hji26
        by_cases c27 : 0 ≤ (ji26)
        ·rw [if_pos c27] at H
         have c27b0 : decide (0 ≤ (ji26)) = true := decide_eq_true c27
         clear c27
         by_cases c28 : (ji26) < (x2_3.length : Int)
         ·rw [if_pos c28] at H
          have c28b0 : decide ((ji26) < (x2_3.length : Int)) = true := decide_eq_true c28
          clear c28
          obtain ⟨y113, hy113⟩ : ∃ y_ : List Int, y_ = (x2_3.set ((ji26) : Int).toNat (wrap64 ((wrap64 ((l1.length : Int) - 1)) - x66_3))) := ⟨_, rfl⟩
          replace H : (lcs_ends.l2 k3 l0 l1 y113 x8_3 x9_14 x9_14 (wrap64 (x66_3 + 1))) = some (r1, r2, r3) := by first | (rw [hy113]; with_reducible exact H) | (have H2_ := (Option.bind_some _ _).symm.trans H; rw [hy113]; with_reducible exact H2_) | (have H2_ := (Option.bind_some _ _).symm.trans H; with_reducible exact H2_) | with_reducible exact H | (rw [hy113]; exact H) | exact H
          have Ny113 := Zm hy113
          clear hy113
          have H' := Zm H
          clear H
          have p29 : 0 ≤ ((ji26) : Int) := Zo (by first | (with_reducible assumption) | assumption)
          have q29 : ((ji26) : Int) < ((x2_3.length : Int) : Int) := Zo (by first | (with_reducible assumption) | assumption)
          obtain ⟨go29, co29, eo29, gb29, gl29, cl29, HG29⟩ := Kd.R_form HO_2.out (by omega)
          (first | cases eo29 | (injection eo29 with ea_ en_ ec_; (first | subst ea_ | (injection ea_ with ea_; subst ea_)); subst ec_; clear en_))
          have GB29 := Zm gb29
          have GG29 := Zm HG29
          clear gb29 gl29 HG29
          have HMgo29 := Zm (show (P2_ go29 ∨ w.heap.size ≤ go29) from (HO_2.out.1 _ rfl))
          obtain ⟨hx29_0, hf29_0⟩ := Kd.R_celln 0 HO_2.out ((ji26) : Int) p29 q29
          replace p29 := eq_true p29
          replace q29 := eq_true q29
          have HP30 := Kd.R_putg HO_2.out ((ji26) : Int) (wrap64 ((wrap64 ((l1.length : Int) - 1)) - x66_3))
          go_wp2_with (first | ((with_reducible refine gate_store (t := 3) (p := 80) rfl ?_); (try (rw [drewN_self wr]; generalize hq_ : World.drewN wr _ = wr; have n0_ := Zm (Kd.R_at hq_ HO_2.out); have n1_ := Zm (kept_at hq_ HK.out); have n2_ := Zm (below_at hq_ HB.out); clear hq_ HO_2 HK HB; have HO_2 := n0_; have HK := n1_; have HB := n2_; clear n0_ n1_ n2_; (try (have HP30 := Kd.R_putg HO_2.out ((ji26) : Int) (wrap64 ((wrap64 ((l1.length : Int) - 1)) - x66_3)); (try (obtain ⟨hx29_0, hf29_0⟩ := Kd.R_celln 0 HO_2.out ((ji26) : Int) (of_eq_true p29) (of_eq_true q29))))))); refine store_event (t := 3) (p := 80) (v := ?vo_w31) (w1 := (wr.setCell ⟨go29, ((ji26) : Int).toNat, none⟩ (.int .i64 (wrap64 ((wrap64 ((l1.length : Int) - 1)) - x66_3))))) ?hg ?ho ?hn ?hr ?_; (case ho => rfl); (case hg => rfl); (case hn => rfl); (case hr => first | (go_simp; done) | (go_simp; rfl)); intro w31 hw; have hg : wr.grownBy w31 (some go29) := (by rw [hw]; exact HP30.2); have hp_ : Kd.R (Kd.int .i64) 3 w31 w0.heap.size (fun k_ => (P2_ k_ ∨ w.heap.size ≤ k_)) (.slice (some ⟨go29, 0, none⟩) x2_3.length co29) y113 := (by rw [hw, Ny113.out]; exact HP30.1); clear HP30; have n0_ := Zm (hp_); have n1_ := Zm ((by rw [hw]; exact below_set (HB.out) GB29.out : Below w0.heap.size w0 w31)); have n2_ := Zm (Kept.of_grown (S := (fun k_ => P2_ k_)) hg (by repeat (first | (with_reducible first | exact HK.out | apply Kept.alloc | apply Kept.drewN | apply Kept.drew) | exact HK.out)) (fun k_ e_ => (HO_2.out.1 k_ e_))); clear HO_2; clear HB; clear HK; have HO_2 := n0_; have HB := n1_; have HK := n2_; clear n0_ n1_ n2_; clear hg hw hp_))
          repeat (go_quiet (first | ((with_reducible refine gate_store (t := 3) (p := 80) rfl ?_); (try (rw [drewN_self wr]; generalize hq_ : World.drewN wr _ = wr; have n0_ := Zm (Kd.R_at hq_ HO_2.out); have n1_ := Zm (kept_at hq_ HK.out); have n2_ := Zm (below_at hq_ HB.out); clear hq_ HO_2 HK HB; have HO_2 := n0_; have HK := n1_; have HB := n2_; clear n0_ n1_ n2_; (try (have HP30 := Kd.R_putg HO_2.out ((ji26) : Int) (wrap64 ((wrap64 ((l1.length : Int) - 1)) - x66_3)); (try (obtain ⟨hx29_0, hf29_0⟩ := Kd.R_celln 0 HO_2.out ((ji26) : Int) (of_eq_true p29) (of_eq_true q29))))))); refine store_event (t := 3) (p := 80) (v := ?vo_w31) (w1 := (wr.setCell ⟨go29, ((ji26) : Int).toNat, none⟩ (.int .i64 (wrap64 ((wrap64 ((l1.length : Int) - 1)) - x66_3))))) ?hg ?ho ?hn ?hr ?_; (case ho => rfl); (case hg => rfl); (case hn => rfl); (case hr => first | (go_simp; done) | (go_simp; rfl)); intro w31 hw; have hg : wr.grownBy w31 (some go29) := (by rw [hw]; exact HP30.2); have hp_ : Kd.R (Kd.int .i64) 3 w31 w0.heap.size (fun k_ => (P2_ k_ ∨ w.heap.size ≤ k_)) (.slice (some ⟨go29, 0, none⟩) x2_3.length co29) y113 := (by rw [hw, Ny113.out]; exact HP30.1); clear HP30; have n0_ := Zm (hp_); have n1_ := Zm ((by rw [hw]; exact below_set (HB.out) GB29.out : Below w0.heap.size w0 w31)); have n2_ := Zm (Kept.of_grown (S := (fun k_ => P2_ k_)) hg (by repeat (first | (with_reducible first | exact HK.out | apply Kept.alloc | apply Kept.drewN | apply Kept.drew) | exact HK.out)) (fun k_ e_ => (HO_2.out.1 k_ e_))); clear HO_2; clear HB; clear HK; have HO_2 := n0_; have HB := n1_; have HK := n2_; clear n0_ n1_ n2_; clear hg hw hp_)); try go_wp2_with (first | ((with_reducible refine gate_store (t := 3) (p := 80) rfl ?_); (try (rw [drewN_self wr]; generalize hq_ : World.drewN wr _ = wr; have n0_ := Zm (Kd.R_at hq_ HO_2.out); have n1_ := Zm (kept_at hq_ HK.out); have n2_ := Zm (below_at hq_ HB.out); clear hq_ HO_2 HK HB; have HO_2 := n0_; have HK := n1_; have HB := n2_; clear n0_ n1_ n2_; (try (have HP30 := Kd.R_putg HO_2.out ((ji26) : Int) (wrap64 ((wrap64 ((l1.length : Int) - 1)) - x66_3)); (try (obtain ⟨hx29_0, hf29_0⟩ := Kd.R_celln 0 HO_2.out ((ji26) : Int) (of_eq_true p29) (of_eq_true q29))))))); refine store_event (t := 3) (p := 80) (v := ?vo_w31) (w1 := (wr.setCell ⟨go29, ((ji26) : Int).toNat, none⟩ (.int .i64 (wrap64 ((wrap64 ((l1.length : Int) - 1)) - x66_3))))) ?hg ?ho ?hn ?hr ?_; (case ho => rfl); (case hg => rfl); (case hn => rfl); (case hr => first | (go_simp; done) | (go_simp; rfl)); intro w31 hw; have hg : wr.grownBy w31 (some go29) := (by rw [hw]; exact HP30.2); have hp_ : Kd.R (Kd.int .i64) 3 w31 w0.heap.size (fun k_ => (P2_ k_ ∨ w.heap.size ≤ k_)) (.slice (some ⟨go29, 0, none⟩) x2_3.length co29) y113 := (by rw [hw, Ny113.out]; exact HP30.1); clear HP30; have n0_ := Zm (hp_); have n1_ := Zm ((by rw [hw]; exact below_set (HB.out) GB29.out : Below w0.heap.size w0 w31)); have n2_ := Zm (Kept.of_grown (S := (fun k_ => P2_ k_)) hg (by repeat (first | (with_reducible first | exact HK.out | apply Kept.alloc | apply Kept.drewN | apply Kept.drew) | exact HK.out)) (fun k_ e_ => (HO_2.out.1 k_ e_))); clear HO_2; clear HB; clear HK; have HO_2 := n0_; have HB := n1_; have HK := n2_; clear n0_ n1_ n2_; clear hg hw hp_)))
          go_roundg k3
          case measure => have := HJ3.out; have := HJ14.out; have := HK3.out; omega
          case rel => exact ⟨(y113), (wrap64 (x66_3 + 1)), (by first | rfl | (simp; done) | (simp [*]; done)), H', ⟨by have := HJ3.out; have := HJ14.out; have := HK3.out; omega⟩, ⟨by (with_reducible repeat (first | apply Kd.R_alloc | apply Kd.R_drewN | apply Kd.R_drew)); first | exact HO_2.out | exact Kd.R_mono HO_2.out (fun _ _ => trivial)⟩, ⟨by repeat (first | (with_reducible first | exact HK.out | apply Kept.alloc | apply Kept.drewN | apply Kept.drew) | exact HK.out)⟩, ⟨by repeat (first | (with_reducible first | exact HB.out | apply below_alloc | apply Zd | apply below_drew1) | exact HB.out)⟩⟩
         ·rw [if_neg c28] at H
          exact absurd H (by simp)
        ·rw [if_neg c27] at H
         exact absurd H (by simp)
       ·rw [if_neg c25] at H
        have c25b0 : decide (x66_3 < x9_14) = false := decide_eq_false c25
        clear c25
        simp only [Option.some.injEq, Prod.mk.injEq] at H
        obtain ⟨rfl, rfl, rfl⟩ := H
        go_wp2
        repeat (go_quiet (fail); try go_wp2)
        go_ret2
        exact ⟨by first | rfl | (simp [errW_none, errW_some] <;> rfl) | (simp [*, errW_none, errW_some] <;> rfl), by (with_reducible repeat (first | apply Kd.R_alloc | apply Kd.R_drewN | apply Kd.R_drew)); exact HO_2.out, by repeat (first | (with_reducible first | exact HB.out | apply below_alloc | apply Zd | apply below_drew1) | exact HB.out), by repeat (first | (with_reducible first | exact HK.out | apply Kept.alloc | apply Kept.drewN | apply Kept.drew) | exact HK.out)⟩
end Go.Proofs.Ytphghffdaceaoaa.PHunk
