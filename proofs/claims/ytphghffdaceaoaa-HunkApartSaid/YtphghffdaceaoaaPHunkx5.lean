/- Laid by a program of this session out of the seat's translation. -/
import Derived.Test.YtphghffdaceaoaaPHunkx0
import Derived.Test.YtphghffdaceaoaaPHunkx2
import Derived.Test.YtphghffdaceaoaaPHunkx3
import Derived.Test.YtphghffdaceaoaaPHunkx4
namespace Go.Proofs.Ytphghffdaceaoaa.PHunk
open Go.RowKit Go.Proofs.YtphghffdaceaoaaW.PrintWords Go.Proofs.YtphghffdaceaoaaW.PrintLast Go.Proofs.YtphghffdaceaoaaW.PrintMore
attribute [local go_sem] max2_int min2_int max_two min_two max_three min_three max_four min_four   -- for this text's walks alone
set_option linter.unusedVariables false
set_option linter.unusedSimpArgs false
/-! ### lcs_Match: function 33 -/
mutual
def lcs_Match.j0 : Nat → List Int → List Int → List Int → Bool → Option (List Int)
 | 0, _, _, _, _ => none
 | k + 1, x0, x1, x5, x19 => if x19 = true then ((lcs_ends.f k x0 x1 x5).bind fun bt144 => (some bt144.2.2)) else ((lcs_left.f k x0 x1).bind fun t147 => (lcs_Match.l0 k x0 x1 x5 t147 0 0))
def lcs_Match.l0 : Nat → List Int → List Int → List Int → List (List Int) → Int → Int → Option (List Int)
 | 0, _, _, _, _, _, _ => none
 | k + 1, x0, x1, x5, x6, x7, x8 => if x7 < (x0.length : Int) then (lcs_Match.j2 k x0 x1 x5 x6 x7 x8 (decide (x8 < (x1.length : Int)))) else (lcs_Match.j2 k x0 x1 x5 x6 x7 x8 false)
def lcs_Match.j2 : Nat → List Int → List Int → List Int → List (List Int) → Int → Int → Bool → Option (List Int)
 | 0, _, _, _, _, _, _, _ => none
 | k + 1, x0, x1, x5, x6, x7, x8, x37 => if x37 = true then (if 0 ≤ x7 then (if x7 < (x0.length : Int) then (if 0 ≤ x8 then (if x8 < (x1.length : Int) then (if (rd x0 x7) = (rd x1 x8) then (if x7 < (x5.length : Int) then (lcs_Match.l0 k x0 x1 (x5.set (x7 : Int).toNat x8) x6 (wrap64 (x7 + 1)) (wrap64 (x8 + 1))) else (none)) else (if 0 ≤ (wrap64 (x7 + 1)) then (if (wrap64 (x7 + 1)) < (x6.length : Int) then (if x8 < ((rd_L9 x6 (wrap64 (x7 + 1))).length : Int) then (if x7 < (x6.length : Int) then (if 0 ≤ (wrap64 (x8 + 1)) then (if (wrap64 (x8 + 1)) < ((rd_L9 x6 x7).length : Int) then (if (rd (rd_L9 x6 (wrap64 (x7 + 1))) x8) ≥ (rd (rd_L9 x6 x7) (wrap64 (x8 + 1))) then (lcs_Match.l0 k x0 x1 x5 x6 (wrap64 (x7 + 1)) x8) else (lcs_Match.l0 k x0 x1 x5 x6 x7 (wrap64 (x8 + 1)))) else (none)) else (none)) else (none)) else (none)) else (none)) else (none))) else (none)) else (none)) else (none)) else (none)) else (some x5)
end
def lcs_Match.f (k : Nat) (l0 : List Int) (l1 : List Int) : Option (List Int) := (lcs_none.f k (l0.length : Int)).bind fun t141 => (if (l0.length : Int) > 2000 then (lcs_Match.j0 k l0 l1 t141 true) else (lcs_Match.j0 k l0 l1 t141 (decide ((l1.length : Int) > 2000))))
theorem lcs_Match.mono_l : ∀ k, (∀ y0 y1 y2 y3, LeO (lcs_Match.j0 k y0 y1 y2 y3) (lcs_Match.j0 (k + 1) y0 y1 y2 y3)) ∧ (∀ y0 y1 y2 y3 y4 y5, LeO (lcs_Match.l0 k y0 y1 y2 y3 y4 y5) (lcs_Match.l0 (k + 1) y0 y1 y2 y3 y4 y5)) ∧ (∀ y0 y1 y2 y3 y4 y5 y6, LeO (lcs_Match.j2 k y0 y1 y2 y3 y4 y5 y6) (lcs_Match.j2 (k + 1) y0 y1 y2 y3 y4 y5 y6))
 | 0 => ⟨fun _ _ _ _ r h => by simp [lcs_Match.j0] at h, fun _ _ _ _ _ _ r h => by simp [lcs_Match.l0] at h, fun _ _ _ _ _ _ _ r h => by simp [lcs_Match.j2] at h⟩
 | k + 1 => by
  obtain ⟨ih0, ih1, ih2⟩ := lcs_Match.mono_l k
  refine ⟨?_, ?_, ?_⟩
  ·intro y0 y1 y2 y3
   unfold lcs_Match.j0
   repeat' first
   | (with_reducible exact ih0 _ _ _ _)
   | (with_reducible exact ih1 _ _ _ _ _ _)
   | (with_reducible exact ih2 _ _ _ _ _ _ _)
   | (with_reducible exact lcs_ends.mono _ _ _ _)
   | (with_reducible exact lcs_left.mono _ _ _)
   | (with_reducible exact lcs_none.mono _ _)
   | (with_reducible exact LeO.refl _)
   | (with_reducible exact LeO.none _)
   | (with_reducible refine LeO.ite ?_ ?_)
   | (with_reducible refine LeO.bind ?_ (fun _ => ?_))
   | exact ih0 _ _ _ _
   | exact ih1 _ _ _ _ _ _
   | exact ih2 _ _ _ _ _ _ _
   | exact lcs_ends.mono _ _ _ _
   | exact lcs_left.mono _ _ _
   | exact lcs_none.mono _ _
   | exact LeO.none _
   | refine LeO.ite ?_ ?_
   | refine LeO.bind ?_ (fun _ => ?_)
  ·intro y0 y1 y2 y3 y4 y5
   unfold lcs_Match.l0
   repeat' first
   | (with_reducible exact ih0 _ _ _ _)
   | (with_reducible exact ih1 _ _ _ _ _ _)
   | (with_reducible exact ih2 _ _ _ _ _ _ _)
   | (with_reducible exact lcs_ends.mono _ _ _ _)
   | (with_reducible exact lcs_left.mono _ _ _)
   | (with_reducible exact lcs_none.mono _ _)
   | (with_reducible exact LeO.refl _)
   | (with_reducible exact LeO.none _)
   | (with_reducible refine LeO.ite ?_ ?_)
   | (with_reducible refine LeO.bind ?_ (fun _ => ?_))
   | exact ih0 _ _ _ _
   | exact ih1 _ _ _ _ _ _
   | exact ih2 _ _ _ _ _ _ _
   | exact lcs_ends.mono _ _ _ _
   | exact lcs_left.mono _ _ _
   | exact lcs_none.mono _ _
   | exact LeO.none _
   | refine LeO.ite ?_ ?_
   | refine LeO.bind ?_ (fun _ => ?_)
  ·intro y0 y1 y2 y3 y4 y5 y6
   unfold lcs_Match.j2
   repeat' first
   | (with_reducible exact ih0 _ _ _ _)
   | (with_reducible exact ih1 _ _ _ _ _ _)
   | (with_reducible exact ih2 _ _ _ _ _ _ _)
   | (with_reducible exact lcs_ends.mono _ _ _ _)
   | (with_reducible exact lcs_left.mono _ _ _)
   | (with_reducible exact lcs_none.mono _ _)
   | (with_reducible exact LeO.refl _)
   | (with_reducible exact LeO.none _)
   | (with_reducible refine LeO.ite ?_ ?_)
   | (with_reducible refine LeO.bind ?_ (fun _ => ?_))
   | exact ih0 _ _ _ _
   | exact ih1 _ _ _ _ _ _
   | exact ih2 _ _ _ _ _ _ _
   | exact lcs_ends.mono _ _ _ _
   | exact lcs_left.mono _ _ _
   | exact lcs_none.mono _ _
   | exact LeO.none _
   | refine LeO.ite ?_ ?_
   | refine LeO.bind ?_ (fun _ => ?_)
theorem lcs_Match.mono : ∀ a0 a1 k, LeO (lcs_Match.f k a0 a1) (lcs_Match.f (k + 1) a0 a1) := by
 intro a0 a1 k
 obtain ⟨ih0, ih1, ih2⟩ := lcs_Match.mono_l k
 unfold lcs_Match.f
 repeat' first
   | (with_reducible exact ih0 _ _ _ _)
   | (with_reducible exact ih1 _ _ _ _ _ _)
   | (with_reducible exact ih2 _ _ _ _ _ _ _)
   | (with_reducible exact lcs_ends.mono _ _ _ _)
   | (with_reducible exact lcs_left.mono _ _ _)
   | (with_reducible exact lcs_none.mono _ _)
   | (with_reducible exact LeO.refl _)
   | (with_reducible exact LeO.none _)
   | (with_reducible refine LeO.ite ?_ ?_)
   | (with_reducible refine LeO.bind ?_ (fun _ => ?_))
   | exact ih0 _ _ _ _
   | exact ih1 _ _ _ _ _ _
   | exact ih2 _ _ _ _ _ _ _
   | exact lcs_ends.mono _ _ _ _
   | exact lcs_left.mono _ _ _
   | exact lcs_none.mono _ _
   | exact LeO.none _
   | refine LeO.ite ?_ ?_
   | refine LeO.bind ?_ (fun _ => ?_)
set_option maxHeartbeats 8000000 in
set_option maxRecDepth 100000 in
theorem lcs_Match.calls (k : Nat) (A0 : Option Addr) (c0 : Nat) (l0 : List Int) (A1 : Option Addr) (c1 : Nat) (l1 : List Int) (r : List Int) (w : World) (hr0 : Kd.C (Kd.int .i64) w A0 l0.length l0) (hc0 : l0.length ≤ c0) (hr1 : Kd.C (Kd.int .i64) w A1 l1.length l1) (hc1 : l1.length ≤ c1) (h : lcs_Match.f k l0 l1 = some r) :
  Calls Try.prog 33 #[.slice A0 l0.length c0, .slice A1 l1.length c1] w fun e w' => ∃ v0_ : Value, e = .returned (v0_) ∧ Kd.R (Kd.int .i64) 3 w' w.heap.size (fun _ => True) v0_ r ∧ Below w.heap.size w w' := by
 have HR0 := Zm hr0
 have HC0 := Zm hc0
 clear hr0 hc0
 have HR1 := Zm hr1
 have HC1 := Zm hc1
 clear hr1 hc1
 have HB := Zm (Below.refl w.heap.size w)
 have H : ((lcs_none.f k (l0.length : Int)).bind fun t141 => (if (l0.length : Int) > 2000 then (lcs_Match.j0 k l0 l1 t141 true) else (lcs_Match.j0 k l0 l1 t141 (decide ((l1.length : Int) > 2000))))) = some r := h
 clear h
 replace H := Option.bind_eq_some_iff.mp H
 obtain ⟨t141, A30, H⟩ := H
 replace H : (if (l0.length : Int) > 2000 then (lcs_Match.j0 k l0 l1 t141 true) else (lcs_Match.j0 k l0 l1 t141 (decide ((l1.length : Int) > 2000)))) = some r := H
 have A3 := Zm A30
 clear A30
 have HC4 := Zm H
 clear H
 go_enter Try.func33, Try.ntmps33
 go_upto_region 2 with (first | (go_at_call 37; (with_reducible refine (lcs_none.calls k (l0.length : Int) t141 _ A3.out).mono ?_); rintro e w5 ⟨v142, rfl, ho0, hb⟩; have n0_ := Zm (Kd.R_lower ho0 (below_size (by repeat (first | (with_reducible first | exact HB.out | apply below_alloc | apply Zd | apply below_drew1) | exact HB.out)))); have n1_ := Zm (below_step (by repeat (first | (with_reducible first | exact HB.out | apply below_alloc | apply Zd | apply below_drew1) | exact HB.out)) hb); clear HB; have HO143 := n0_; have HB := n1_; clear n0_ n1_; (try clear hb); (try clear hb2); (try clear hk); (try clear hi); (try clear ho0)))
 repeat (go_quiet (first | (go_at_call 37; (with_reducible refine (lcs_none.calls k (l0.length : Int) t141 _ A3.out).mono ?_); rintro e w5 ⟨v142, rfl, ho0, hb⟩; have n0_ := Zm (Kd.R_lower ho0 (below_size (by repeat (first | (with_reducible first | exact HB.out | apply below_alloc | apply Zd | apply below_drew1) | exact HB.out)))); have n1_ := Zm (below_step (by repeat (first | (with_reducible first | exact HB.out | apply below_alloc | apply Zd | apply below_drew1) | exact HB.out)) hb); clear HB; have HO143 := n0_; have HB := n1_; clear n0_ n1_; (try clear hb); (try clear hb2); (try clear hk); (try clear hi); (try clear ho0))); go_upto_region 2 with (first | (go_at_call 37; (with_reducible refine (lcs_none.calls k (l0.length : Int) t141 _ A3.out).mono ?_); rintro e w5 ⟨v142, rfl, ho0, hb⟩; have n0_ := Zm (Kd.R_lower ho0 (below_size (by repeat (first | (with_reducible first | exact HB.out | apply below_alloc | apply Zd | apply below_drew1) | exact HB.out)))); have n1_ := Zm (below_step (by repeat (first | (with_reducible first | exact HB.out | apply below_alloc | apply Zd | apply below_drew1) | exact HB.out)) hb); clear HB; have HO143 := n0_; have HB := n1_; clear n0_ n1_; (try clear hb); (try clear hb2); (try clear hk); (try clear hi); (try clear ho0))))
 (try simp only [Act.put, List.setIfInBounds_toArray, List.set_cons_zero, List.set_cons_succ])
 go_cut [19] (fun v19 wc => ∃ (kq : Nat) (x19_3 : Bool), v19 = .bool x19_3 ∧ Aside0 (lcs_Match.j0 kq l0 l1 t141 x19_3 = some r) ∧ Aside0 (kq ≤ k) ∧ Aside0 (Kd.R (Kd.int .i64) 3 wc w.heap.size (fun _ => True) v142 t141) ∧ Aside0 (Below w.heap.size w wc))
 case first =>
  have H := HC4.out
  clear HC4
  by_cases c6 : (l0.length : Int) > 2000
  ·rw [if_pos c6] at H
   have c6b0 : decide (2000 < (l0.length : Int)) = true := decide_eq_true c6
   have c6b1 : decide (2000 < l0.length) = true := decide_eq_true (by omega)
   clear c6
   (first | rw [c6b0] | (simp only [i64_w, i32_w]; rw [c6b0]) | skip)
   have H' := Zm H
   clear H
   go_wp2
   repeat (go_quiet (fail); try go_wp2)
   go_meet
   case rel => exact ⟨_, (true), (by first | rfl | (simp; done) | (simp [*]; done)), H', ⟨by first | omega | exact Nat.le_refl _⟩, ⟨by (with_reducible repeat (first | apply Kd.R_alloc | apply Kd.R_drewN | apply Kd.R_drew)); first | exact HO143.out | exact Kd.R_mono HO143.out (fun _ _ => trivial)⟩, ⟨by repeat (first | (with_reducible first | exact HB.out | apply below_alloc | apply Zd | apply below_drew1) | exact HB.out)⟩⟩
  ·rw [if_neg c6] at H
   have c6b0 : decide (2000 < (l0.length : Int)) = false := decide_eq_false c6
   have c6b1 : decide (2000 < l0.length) = false := decide_eq_false (by omega)
   clear c6
   (first | rw [c6b0] | (simp only [i64_w, i32_w]; rw [c6b0]) | skip)
   have H' := Zm H
   clear H
   go_wp2
   repeat (go_quiet (fail); try go_wp2)
   go_meet
   case rel => exact ⟨_, (decide ((l1.length : Int) > 2000)), (by first | rfl | (simp; done) | (simp [*]; done)), H', ⟨by first | omega | exact Nat.le_refl _⟩, ⟨by (with_reducible repeat (first | apply Kd.R_alloc | apply Kd.R_drewN | apply Kd.R_drew)); first | exact HO143.out | exact Kd.R_mono HO143.out (fun _ _ => trivial)⟩, ⟨by repeat (first | (with_reducible first | exact HB.out | apply below_alloc | apply Zd | apply below_drew1) | exact HB.out)⟩⟩
 case rest =>
  clear HC4
  try clear c1
  try clear p2
  try clear c3
  try clear c6
  try clear c6b0
  try clear c6b1
  obtain ⟨kq, x19_3, rfl, HA, HJ3, HO_5, HB⟩ := hcut
  cases kq with
  | zero => exact absurd HA.out (by simp [lcs_Match.j0])
  | succ kj3 =>
   have H := HA.out
   clear HA
   simp only [lcs_Match.j0] at H
   by_cases c7 : x19_3 = true
   ·subst c7
    have H1 : ((lcs_ends.f kj3 l0 l1 t141).bind fun bt144 => (some bt144.2.2)) = some r := by rw [if_pos rfl] at H; exact H
    clear H
    have H := H1
    clear H1
    replace H := Option.bind_eq_some_iff.mp H
    obtain ⟨⟨t144, t145, t146⟩, A80, H⟩ := H
    replace H : (some t146) = some r := H
    have A8 := Zm A80
    clear A80
    obtain rfl := Option.some.inj H
    obtain ⟨Ao9, co9, eo9⟩ := Kd.R_slice HO_5.out
    subst eo9
    go_wp2_with (first | (go_at_call 38; (with_reducible refine (lcs_ends.calls kj3 _ _ l0 _ _ l1 (fun k_ => some k_ = (.slice Ao9 t141.length co9 : Value).ownBlock) (.slice Ao9 t141.length co9) t141 t144 t145 t146 w _ ?side1 ?side2 ?side3 ?side4 ?side5 ?side6 A8.out).mono ?_); (case side1 => repeat (first | (with_reducible first | exact HB.out | apply below_alloc | apply Zd | apply below_drew1) | exact HB.out)); (case side2 => exact Kd.C_kept_came (Kd.heap_int .i64) HR0.out (by repeat (first | (with_reducible first | exact HB.out | apply below_alloc | apply Zd | apply below_drew1) | exact HB.out)) (fun k_ hs_ => (fun e_ => Kd.R_base HO_5.out k_ e_.symm) hs_)); (case side3 => exact HC0.out); (case side4 => exact Kd.C_kept_came (Kd.heap_int .i64) HR1.out (by repeat (first | (with_reducible first | exact HB.out | apply below_alloc | apply Zd | apply below_drew1) | exact HB.out)) (fun k_ hs_ => (fun e_ => Kd.R_base HO_5.out k_ e_.symm) hs_)); (case side5 => exact HC1.out); (case side6 => exact Kd.R_tight rfl HO_5.out); rintro e w10 ⟨rfl, hy0, hb, hkp⟩; have n0_ := Zm (Kd.R_reok rfl hy0 (fun k_ e_ => HO_5.out.1 k_ e_)); have n1_ := Zm (hb); clear HO_5; clear HB; have HO_5 := n0_; have HB := n1_; clear n0_ n1_; (try clear hb); (try clear hkp); (try clear hy0)))
    repeat (go_quiet (first | (go_at_call 38; (with_reducible refine (lcs_ends.calls kj3 _ _ l0 _ _ l1 (fun k_ => some k_ = (.slice Ao9 t141.length co9 : Value).ownBlock) (.slice Ao9 t141.length co9) t141 t144 t145 t146 w _ ?side1 ?side2 ?side3 ?side4 ?side5 ?side6 A8.out).mono ?_); (case side1 => repeat (first | (with_reducible first | exact HB.out | apply below_alloc | apply Zd | apply below_drew1) | exact HB.out)); (case side2 => exact Kd.C_kept_came (Kd.heap_int .i64) HR0.out (by repeat (first | (with_reducible first | exact HB.out | apply below_alloc | apply Zd | apply below_drew1) | exact HB.out)) (fun k_ hs_ => (fun e_ => Kd.R_base HO_5.out k_ e_.symm) hs_)); (case side3 => exact HC0.out); (case side4 => exact Kd.C_kept_came (Kd.heap_int .i64) HR1.out (by repeat (first | (with_reducible first | exact HB.out | apply below_alloc | apply Zd | apply below_drew1) | exact HB.out)) (fun k_ hs_ => (fun e_ => Kd.R_base HO_5.out k_ e_.symm) hs_)); (case side5 => exact HC1.out); (case side6 => exact Kd.R_tight rfl HO_5.out); rintro e w10 ⟨rfl, hy0, hb, hkp⟩; have n0_ := Zm (Kd.R_reok rfl hy0 (fun k_ e_ => HO_5.out.1 k_ e_)); have n1_ := Zm (hb); clear HO_5; clear HB; have HO_5 := n0_; have HB := n1_; clear n0_ n1_; (try clear hb); (try clear hkp); (try clear hy0))); try go_wp2_with (first | (go_at_call 38; (with_reducible refine (lcs_ends.calls kj3 _ _ l0 _ _ l1 (fun k_ => some k_ = (.slice Ao9 t141.length co9 : Value).ownBlock) (.slice Ao9 t141.length co9) t141 t144 t145 t146 w _ ?side1 ?side2 ?side3 ?side4 ?side5 ?side6 A8.out).mono ?_); (case side1 => repeat (first | (with_reducible first | exact HB.out | apply below_alloc | apply Zd | apply below_drew1) | exact HB.out)); (case side2 => exact Kd.C_kept_came (Kd.heap_int .i64) HR0.out (by repeat (first | (with_reducible first | exact HB.out | apply below_alloc | apply Zd | apply below_drew1) | exact HB.out)) (fun k_ hs_ => (fun e_ => Kd.R_base HO_5.out k_ e_.symm) hs_)); (case side3 => exact HC0.out); (case side4 => exact Kd.C_kept_came (Kd.heap_int .i64) HR1.out (by repeat (first | (with_reducible first | exact HB.out | apply below_alloc | apply Zd | apply below_drew1) | exact HB.out)) (fun k_ hs_ => (fun e_ => Kd.R_base HO_5.out k_ e_.symm) hs_)); (case side5 => exact HC1.out); (case side6 => exact Kd.R_tight rfl HO_5.out); rintro e w10 ⟨rfl, hy0, hb, hkp⟩; have n0_ := Zm (Kd.R_reok rfl hy0 (fun k_ e_ => HO_5.out.1 k_ e_)); have n1_ := Zm (hb); clear HO_5; clear HB; have HO_5 := n0_; have HB := n1_; clear n0_ n1_; (try clear hb); (try clear hkp); (try clear hy0))))
    go_ret
    exact ⟨_, by first | rfl | (simp [errW_none, errW_some] <;> rfl) | (simp [*, errW_none, errW_some] <;> rfl), by (with_reducible repeat (first | apply Kd.R_alloc | apply Kd.R_drewN | apply Kd.R_drew)); exact HO_5.out, by repeat (first | (with_reducible first | exact HB.out | apply below_alloc | apply Zd | apply below_drew1) | exact HB.out)⟩
   ·replace c7 := Bool.eq_false_iff.mpr c7
    subst c7
    have H1 : ((lcs_left.f kj3 l0 l1).bind fun t147 => (lcs_Match.l0 kj3 l0 l1 t141 t147 0 0)) = some r := by rw [if_neg (show ¬ (false = true) by decide)] at H; exact H
    clear H
    have H := H1
    clear H1
    replace H := Option.bind_eq_some_iff.mp H
    obtain ⟨t147, A110, H⟩ := H
    replace H : (lcs_Match.l0 kj3 l0 l1 t141 t147 0 0) = some r := H
    have A11 := Zm A110
    clear A110
    have H' := Zm H
    clear H
    go_wp2_with (first | (go_at_call 39; (with_reducible refine (lcs_left.calls kj3 _ _ l0 _ _ l1 t147 _ ?side1 ?side2 ?side3 ?side4 A11.out).mono ?_); (case side1 => repeat (first | exact (Kd.C_below HR0.out HB.out) | (with_reducible refine Kd.C_alloc ?_ _) | (with_reducible refine Kd.C_drewN ?_ _) | (with_reducible refine Kd.C_drew ?_))); (case side2 => exact HC0.out); (case side3 => repeat (first | exact (Kd.C_below HR1.out HB.out) | (with_reducible refine Kd.C_alloc ?_ _) | (with_reducible refine Kd.C_drewN ?_ _) | (with_reducible refine Kd.C_drew ?_))); (case side4 => exact HC1.out); rintro e w12 ⟨v148, rfl, ho0, hb⟩; have n0_ := Zm (Kd.R_below (by (with_reducible repeat (first | apply Kd.R_alloc | apply Kd.R_drewN | apply Kd.R_drew)); exact HO_5.out) hb); have n1_ := Zm (Kd.S_lower ho0 (below_size (by repeat (first | (with_reducible first | exact HB.out | apply below_alloc | apply Zd | apply below_drew1) | exact HB.out)))); have n2_ := Zm (below_step (by repeat (first | (with_reducible first | exact HB.out | apply below_alloc | apply Zd | apply below_drew1) | exact HB.out)) hb); clear HO_5; clear HB; have HO_5 := n0_; have HO149 := n1_; have HB := n2_; clear n0_ n1_ n2_; (try clear hb); (try clear hb2); (try clear hk); (try clear hi); (try clear ho0)))
    repeat (go_quiet (first | (go_at_call 39; (with_reducible refine (lcs_left.calls kj3 _ _ l0 _ _ l1 t147 _ ?side1 ?side2 ?side3 ?side4 A11.out).mono ?_); (case side1 => repeat (first | exact (Kd.C_below HR0.out HB.out) | (with_reducible refine Kd.C_alloc ?_ _) | (with_reducible refine Kd.C_drewN ?_ _) | (with_reducible refine Kd.C_drew ?_))); (case side2 => exact HC0.out); (case side3 => repeat (first | exact (Kd.C_below HR1.out HB.out) | (with_reducible refine Kd.C_alloc ?_ _) | (with_reducible refine Kd.C_drewN ?_ _) | (with_reducible refine Kd.C_drew ?_))); (case side4 => exact HC1.out); rintro e w12 ⟨v148, rfl, ho0, hb⟩; have n0_ := Zm (Kd.R_below (by (with_reducible repeat (first | apply Kd.R_alloc | apply Kd.R_drewN | apply Kd.R_drew)); exact HO_5.out) hb); have n1_ := Zm (Kd.S_lower ho0 (below_size (by repeat (first | (with_reducible first | exact HB.out | apply below_alloc | apply Zd | apply below_drew1) | exact HB.out)))); have n2_ := Zm (below_step (by repeat (first | (with_reducible first | exact HB.out | apply below_alloc | apply Zd | apply below_drew1) | exact HB.out)) hb); clear HO_5; clear HB; have HO_5 := n0_; have HO149 := n1_; have HB := n2_; clear n0_ n1_ n2_; (try clear hb); (try clear hb2); (try clear hk); (try clear hi); (try clear ho0))); try go_wp2_with (first | (go_at_call 39; (with_reducible refine (lcs_left.calls kj3 _ _ l0 _ _ l1 t147 _ ?side1 ?side2 ?side3 ?side4 A11.out).mono ?_); (case side1 => repeat (first | exact (Kd.C_below HR0.out HB.out) | (with_reducible refine Kd.C_alloc ?_ _) | (with_reducible refine Kd.C_drewN ?_ _) | (with_reducible refine Kd.C_drew ?_))); (case side2 => exact HC0.out); (case side3 => repeat (first | exact (Kd.C_below HR1.out HB.out) | (with_reducible refine Kd.C_alloc ?_ _) | (with_reducible refine Kd.C_drewN ?_ _) | (with_reducible refine Kd.C_drew ?_))); (case side4 => exact HC1.out); rintro e w12 ⟨v148, rfl, ho0, hb⟩; have n0_ := Zm (Kd.R_below (by (with_reducible repeat (first | apply Kd.R_alloc | apply Kd.R_drewN | apply Kd.R_drew)); exact HO_5.out) hb); have n1_ := Zm (Kd.S_lower ho0 (below_size (by repeat (first | (with_reducible first | exact HB.out | apply below_alloc | apply Zd | apply below_drew1) | exact HB.out)))); have n2_ := Zm (below_step (by repeat (first | (with_reducible first | exact HB.out | apply below_alloc | apply Zd | apply below_drew1) | exact HB.out)) hb); clear HO_5; clear HB; have HO_5 := n0_; have HO149 := n1_; have HB := n2_; clear n0_ n1_ n2_; (try clear hb); (try clear hb2); (try clear hk); (try clear hi); (try clear ho0))))
    go_loopg [7, 8] kj3 (fun kq v7 v8 w' => ∃ (x5_2 : List Int) (x7_2 : Int) (x8_2 : Int), v7 = .int .i64 x7_2 ∧ v8 = .int .i64 x8_2 ∧ Aside0 (lcs_Match.l0 kq l0 l1 x5_2 t147 x7_2 x8_2 = some r) ∧ Aside0 (kq ≤ kj3) ∧ Aside0 (Kd.R (Kd.int .i64) 3 w' w.heap.size (fun _ => True) v142 x5_2) ∧ Aside0 (Kd.S (Kd.slice 21 (Kd.int .i32)) 67 w' w.heap.size (fun _ => True) v148 t147) ∧ Aside0 (Below w.heap.size w w'))
    case atStart => exact ⟨(t141), (0), (0), (by first | rfl | (simp; done) | (simp [*]; done)), (by first | rfl | (simp; done) | (simp [*]; done)), H', ⟨Nat.le_refl _⟩, ⟨by (with_reducible repeat (first | apply Kd.R_alloc | apply Kd.R_drewN | apply Kd.R_drew)); first | exact HO_5.out | exact Kd.R_mono HO_5.out (fun _ _ => trivial)⟩, ⟨by (with_reducible repeat (first | apply Kd.S_alloc | apply Kd.S_drewN | apply Kd.S_drew)); exact HO149.out⟩, ⟨by repeat (first | (with_reducible first | exact HB.out | apply below_alloc | apply Zd | apply below_drew1) | exact HB.out)⟩⟩
    case round =>
     clear H'
     try clear c1
     try clear p2
     try clear c3
     try clear c6
     try clear c6b0
     try clear c6b1
     try clear c7
     try clear p2
     obtain ⟨x5_2, x7_2, x8_2, rfl, rfl, HA, HK2, HO_5, HO_6, HB⟩ := hrel
     cases gk with
     | zero => exact absurd HA.out (by simp [lcs_Match.l0])
     | succ k2 =>
      have H := HA.out
      clear HA
      simp only [lcs_Match.l0] at H
      have HC13 := Zm H
      clear H
      go_upto_region 7 with (fail)
      repeat (go_quiet (fail); go_upto_region 7 with (fail))
      go_cut [37] (fun v37 wc => ∃ (kq : Nat) (x37_12 : Bool), v37 = .bool x37_12 ∧ Aside0 (lcs_Match.j2 kq l0 l1 x5_2 t147 x7_2 x8_2 x37_12 = some r) ∧ Aside0 (kq ≤ k2) ∧ Aside0 (Kd.R (Kd.int .i64) 3 wc w.heap.size (fun _ => True) v142 x5_2) ∧ Aside0 (Kd.S (Kd.slice 21 (Kd.int .i32)) 67 wc w.heap.size (fun _ => True) v148 t147) ∧ Aside0 (Below w.heap.size w wc))
      case first =>
       have H := HC13.out
       clear HC13
       by_cases c14 : x7_2 < (l0.length : Int)
       ·rw [if_pos c14] at H
        have c14b0 : decide (x7_2 < (l0.length : Int)) = true := decide_eq_true c14
        clear c14
        (first | rw [c14b0] | (simp only [i64_w, i32_w]; rw [c14b0]) | skip)
        have H' := Zm H
        clear H
        go_wp2
        repeat (go_quiet (fail); try go_wp2)
        go_meet
        case rel => exact ⟨_, (decide (x8_2 < (l1.length : Int))), (by first | rfl | (simp; done) | (simp [*]; done)), H', ⟨by have := HJ3.out; have := HK2.out; first | omega | exact Nat.le_refl _⟩, ⟨by (with_reducible repeat (first | apply Kd.R_alloc | apply Kd.R_drewN | apply Kd.R_drew)); first | exact HO_5.out | exact Kd.R_mono HO_5.out (fun _ _ => trivial)⟩, ⟨by (with_reducible repeat (first | apply Kd.S_alloc | apply Kd.S_drewN | apply Kd.S_drew)); exact HO_6.out⟩, ⟨by repeat (first | (with_reducible first | exact HB.out | apply below_alloc | apply Zd | apply below_drew1) | exact HB.out)⟩⟩
       ·rw [if_neg c14] at H
        have c14b0 : decide (x7_2 < (l0.length : Int)) = false := decide_eq_false c14
        clear c14
        (first | rw [c14b0] | (simp only [i64_w, i32_w]; rw [c14b0]) | skip)
        have H' := Zm H
        clear H
        go_wp2
        repeat (go_quiet (fail); try go_wp2)
        go_meet
        case rel => exact ⟨_, (false), (by first | rfl | (simp; done) | (simp [*]; done)), H', ⟨by have := HJ3.out; have := HK2.out; first | omega | exact Nat.le_refl _⟩, ⟨by (with_reducible repeat (first | apply Kd.R_alloc | apply Kd.R_drewN | apply Kd.R_drew)); first | exact HO_5.out | exact Kd.R_mono HO_5.out (fun _ _ => trivial)⟩, ⟨by (with_reducible repeat (first | apply Kd.S_alloc | apply Kd.S_drewN | apply Kd.S_drew)); exact HO_6.out⟩, ⟨by repeat (first | (with_reducible first | exact HB.out | apply below_alloc | apply Zd | apply below_drew1) | exact HB.out)⟩⟩
      case rest =>
       clear HC13
       try clear c1
       try clear p2
       try clear c3
       try clear c6
       try clear c6b0
       try clear c6b1
       try clear c7
       try clear c14
       try clear c14b0
       try clear p2
       obtain ⟨kq, x37_12, rfl, HA, HJ12, HO_5, HO_6, HB⟩ := hcut
       cases kq with
       | zero => exact absurd HA.out (by simp [lcs_Match.j2])
       | succ kj12 =>
        have H := HA.out
        clear HA
        simp only [lcs_Match.j2] at H
        by_cases c15 : x37_12 = true
        ·subst c15
         have H1 : (if 0 ≤ x7_2 then (if x7_2 < (l0.length : Int) then (if 0 ≤ x8_2 then (if x8_2 < (l1.length : Int) then (if (rd l0 x7_2) = (rd l1 x8_2) then (if x7_2 < (x5_2.length : Int) then (lcs_Match.l0 kj12 l0 l1 (x5_2.set (x7_2 : Int).toNat x8_2) t147 (wrap64 (x7_2 + 1)) (wrap64 (x8_2 + 1))) else (none)) else (if 0 ≤ (wrap64 (x7_2 + 1)) then (if (wrap64 (x7_2 + 1)) < (t147.length : Int) then (if x8_2 < ((rd_L9 t147 (wrap64 (x7_2 + 1))).length : Int) then (if x7_2 < (t147.length : Int) then (if 0 ≤ (wrap64 (x8_2 + 1)) then (if (wrap64 (x8_2 + 1)) < ((rd_L9 t147 x7_2).length : Int) then (if (rd (rd_L9 t147 (wrap64 (x7_2 + 1))) x8_2) ≥ (rd (rd_L9 t147 x7_2) (wrap64 (x8_2 + 1))) then (lcs_Match.l0 kj12 l0 l1 x5_2 t147 (wrap64 (x7_2 + 1)) x8_2) else (lcs_Match.l0 kj12 l0 l1 x5_2 t147 x7_2 (wrap64 (x8_2 + 1)))) else (none)) else (none)) else (none)) else (none)) else (none)) else (none))) else (none)) else (none)) else (none)) else (none)) = some r := by rw [if_pos rfl] at H; exact H
         clear H
         have H := H1
         clear H1
         by_cases c16 : 0 ≤ x7_2
         ·rw [if_pos c16] at H
          have c16b0 : decide (0 ≤ x7_2) = true := decide_eq_true c16
          clear c16
          by_cases c17 : x7_2 < (l0.length : Int)
          ·rw [if_pos c17] at H
           have c17b0 : decide (x7_2 < (l0.length : Int)) = true := decide_eq_true c17
           clear c17
           by_cases c18 : 0 ≤ x8_2
           ·rw [if_pos c18] at H
            have c18b0 : decide (0 ≤ x8_2) = true := decide_eq_true c18
            clear c18
            by_cases c19 : x8_2 < (l1.length : Int)
            ·rw [if_pos c19] at H
             have c19b0 : decide (x8_2 < (l1.length : Int)) = true := decide_eq_true c19
             clear c19
             by_cases c20 : (rd l0 x7_2) = (rd l1 x8_2)
             ·rw [if_pos c20] at H
              have c20b0 : ((rd l0 x7_2) == (rd l1 x8_2)) = true := beq_iff_eq.mpr c20
              have c20b1 : ((rd l0 x7_2) != (rd l1 x8_2)) = false := bne_eq_false_iff_eq.mpr c20
              clear c20
              by_cases c21 : x7_2 < (x5_2.length : Int)
              ·rw [if_pos c21] at H
               have c21b0 : decide (x7_2 < (x5_2.length : Int)) = true := decide_eq_true c21
               clear c21
               obtain ⟨y152, hy152⟩ : ∃ y_ : List Int, y_ = (x5_2.set (x7_2 : Int).toNat x8_2) := ⟨_, rfl⟩
               replace H : (lcs_Match.l0 kj12 l0 l1 y152 t147 (wrap64 (x7_2 + 1)) (wrap64 (x8_2 + 1))) = some r := by first | (rw [hy152]; with_reducible exact H) | (have H2_ := (Option.bind_some _ _).symm.trans H; rw [hy152]; with_reducible exact H2_) | (have H2_ := (Option.bind_some _ _).symm.trans H; with_reducible exact H2_) | with_reducible exact H | (rw [hy152]; exact H) | exact H
               have Ny152 := Zm hy152
               clear hy152
               have H' := Zm H
               clear H
               have p150 : 0 ≤ (x7_2 : Int) := Zo (by first | (with_reducible assumption) | assumption)
               have q150 : x7_2 < (l0.length : Int) := Zo (by first | (with_reducible assumption) | assumption)
               obtain ⟨ad150, e150, hx150_0⟩ := Kd.at_int HR0.out x7_2 p150 q150
               cases e150
               replace hx150_0 := (HB.out.cell (World.block_lt_of_cell? w _ hx150_0)).trans hx150_0
               replace p150 := eq_true p150
               replace q150 := eq_true q150
               have p151 : 0 ≤ (x8_2 : Int) := Zo (by first | (with_reducible assumption) | assumption)
               have q151 : x8_2 < (l1.length : Int) := Zo (by first | (with_reducible assumption) | assumption)
               obtain ⟨ad151, e151, hx151_0⟩ := Kd.at_int HR1.out x8_2 p151 q151
               cases e151
               replace hx151_0 := (HB.out.cell (World.block_lt_of_cell? w _ hx151_0)).trans hx151_0
               replace p151 := eq_true p151
               replace q151 := eq_true q151
               have p22 : 0 ≤ (x7_2 : Int) := Zo (by first | (with_reducible assumption) | assumption)
               have q22 : (x7_2 : Int) < ((x5_2.length : Int) : Int) := Zo (by first | (with_reducible assumption) | assumption)
               obtain ⟨go22, co22, eo22, gb22, gl22, cl22, HG22⟩ := Kd.R_form HO_5.out (by omega)
               (first | cases eo22 | (injection eo22 with ea_ en_ ec_; (first | subst ea_ | (injection ea_ with ea_; subst ea_)); subst ec_; clear en_))
               have GB22 := Zm gb22
               have GG22 := Zm HG22
               clear gb22 gl22 HG22
               obtain ⟨hx22_0, hf22_0⟩ := Kd.R_celln 0 HO_5.out (x7_2 : Int) p22 q22
               replace p22 := eq_true p22
               replace q22 := eq_true q22
               have HP23 := Kd.R_putg HO_5.out (x7_2 : Int) x8_2
               go_wp2_with (first | ((with_reducible refine gate_store (t := 3) (p := 53) rfl ?_); (try (rw [drewN_self wc]; generalize hq_ : World.drewN wc _ = wc; have n0_ := Zm (Kd.R_at hq_ HO_5.out); have n1_ := Zm (Kd.S_at hq_ HO_6.out); have n2_ := Zm (below_at hq_ HB.out); clear hq_ HO_5 HO_6 HB; have HO_5 := n0_; have HO_6 := n1_; have HB := n2_; clear n0_ n1_ n2_; (try (have HP23 := Kd.R_putg HO_5.out (x7_2 : Int) x8_2)); (try (obtain ⟨hx22_0, hf22_0⟩ := Kd.R_celln 0 HO_5.out (x7_2 : Int) (of_eq_true p22) (of_eq_true q22))))); refine store_event (t := 3) (p := 53) (v := ?vo_w24) (w1 := (wc.setCell ⟨go22, (x7_2 : Int).toNat, none⟩ (.int .i64 x8_2))) ?hg ?ho ?hn ?hr ?_; (case ho => rfl); (case hg => rfl); (case hn => rfl); (case hr => first | (go_simp; done) | (go_simp; rfl)); intro w24 hw; have hg : wc.grownBy w24 (some go22) := (by rw [hw]; exact HP23.2); have hp_ : Kd.R (Kd.int .i64) 3 w24 w.heap.size (fun _ => True) (.slice (some ⟨go22, 0, none⟩) x5_2.length co22) y152 := (by rw [hw, Ny152.out]; exact HP23.1); clear HP23; have n0_ := Zm (hp_); have n1_ := Zm (Kd.S_over' (v := (.slice (some ⟨go22, 0, none⟩) x5_2.length co22)) (by (with_reducible repeat (first | apply Kd.S_alloc | apply Kd.S_drewN | apply Kd.S_drew)); exact HO_6.out) (Kd.R_typed HO_5.out) (by decide) hg); have n2_ := Zm ((by rw [hw]; exact below_set (HB.out) GB22.out : Below w.heap.size w w24)); clear HO_5; clear HO_6; clear HB; have HO_5 := n0_; have HO_6 := n1_; have HB := n2_; clear n0_ n1_ n2_; clear hg hw hp_))
               repeat (go_quiet (first | ((with_reducible refine gate_store (t := 3) (p := 53) rfl ?_); (try (rw [drewN_self wc]; generalize hq_ : World.drewN wc _ = wc; have n0_ := Zm (Kd.R_at hq_ HO_5.out); have n1_ := Zm (Kd.S_at hq_ HO_6.out); have n2_ := Zm (below_at hq_ HB.out); clear hq_ HO_5 HO_6 HB; have HO_5 := n0_; have HO_6 := n1_; have HB := n2_; clear n0_ n1_ n2_; (try (have HP23 := Kd.R_putg HO_5.out (x7_2 : Int) x8_2)); (try (obtain ⟨hx22_0, hf22_0⟩ := Kd.R_celln 0 HO_5.out (x7_2 : Int) (of_eq_true p22) (of_eq_true q22))))); refine store_event (t := 3) (p := 53) (v := ?vo_w24) (w1 := (wc.setCell ⟨go22, (x7_2 : Int).toNat, none⟩ (.int .i64 x8_2))) ?hg ?ho ?hn ?hr ?_; (case ho => rfl); (case hg => rfl); (case hn => rfl); (case hr => first | (go_simp; done) | (go_simp; rfl)); intro w24 hw; have hg : wc.grownBy w24 (some go22) := (by rw [hw]; exact HP23.2); have hp_ : Kd.R (Kd.int .i64) 3 w24 w.heap.size (fun _ => True) (.slice (some ⟨go22, 0, none⟩) x5_2.length co22) y152 := (by rw [hw, Ny152.out]; exact HP23.1); clear HP23; have n0_ := Zm (hp_); have n1_ := Zm (Kd.S_over' (v := (.slice (some ⟨go22, 0, none⟩) x5_2.length co22)) (by (with_reducible repeat (first | apply Kd.S_alloc | apply Kd.S_drewN | apply Kd.S_drew)); exact HO_6.out) (Kd.R_typed HO_5.out) (by decide) hg); have n2_ := Zm ((by rw [hw]; exact below_set (HB.out) GB22.out : Below w.heap.size w w24)); clear HO_5; clear HO_6; clear HB; have HO_5 := n0_; have HO_6 := n1_; have HB := n2_; clear n0_ n1_ n2_; clear hg hw hp_)); try go_wp2_with (first | ((with_reducible refine gate_store (t := 3) (p := 53) rfl ?_); (try (rw [drewN_self wc]; generalize hq_ : World.drewN wc _ = wc; have n0_ := Zm (Kd.R_at hq_ HO_5.out); have n1_ := Zm (Kd.S_at hq_ HO_6.out); have n2_ := Zm (below_at hq_ HB.out); clear hq_ HO_5 HO_6 HB; have HO_5 := n0_; have HO_6 := n1_; have HB := n2_; clear n0_ n1_ n2_; (try (have HP23 := Kd.R_putg HO_5.out (x7_2 : Int) x8_2)); (try (obtain ⟨hx22_0, hf22_0⟩ := Kd.R_celln 0 HO_5.out (x7_2 : Int) (of_eq_true p22) (of_eq_true q22))))); refine store_event (t := 3) (p := 53) (v := ?vo_w24) (w1 := (wc.setCell ⟨go22, (x7_2 : Int).toNat, none⟩ (.int .i64 x8_2))) ?hg ?ho ?hn ?hr ?_; (case ho => rfl); (case hg => rfl); (case hn => rfl); (case hr => first | (go_simp; done) | (go_simp; rfl)); intro w24 hw; have hg : wc.grownBy w24 (some go22) := (by rw [hw]; exact HP23.2); have hp_ : Kd.R (Kd.int .i64) 3 w24 w.heap.size (fun _ => True) (.slice (some ⟨go22, 0, none⟩) x5_2.length co22) y152 := (by rw [hw, Ny152.out]; exact HP23.1); clear HP23; have n0_ := Zm (hp_); have n1_ := Zm (Kd.S_over' (v := (.slice (some ⟨go22, 0, none⟩) x5_2.length co22)) (by (with_reducible repeat (first | apply Kd.S_alloc | apply Kd.S_drewN | apply Kd.S_drew)); exact HO_6.out) (Kd.R_typed HO_5.out) (by decide) hg); have n2_ := Zm ((by rw [hw]; exact below_set (HB.out) GB22.out : Below w.heap.size w w24)); clear HO_5; clear HO_6; clear HB; have HO_5 := n0_; have HO_6 := n1_; have HB := n2_; clear n0_ n1_ n2_; clear hg hw hp_)))
               go_roundg kj12
               case measure => have := HJ3.out; have := HK2.out; have := HJ12.out; omega
               case rel => exact ⟨(y152), (wrap64 (x7_2 + 1)), (wrap64 (x8_2 + 1)), (by first | rfl | (simp; done) | (simp [*]; done)), (by first | rfl | (simp; done) | (simp [*]; done)), H', ⟨by have := HJ3.out; have := HK2.out; have := HJ12.out; omega⟩, ⟨by (with_reducible repeat (first | apply Kd.R_alloc | apply Kd.R_drewN | apply Kd.R_drew)); first | exact HO_5.out | exact Kd.R_mono HO_5.out (fun _ _ => trivial)⟩, ⟨by (with_reducible repeat (first | apply Kd.S_alloc | apply Kd.S_drewN | apply Kd.S_drew)); exact HO_6.out⟩, ⟨by repeat (first | (with_reducible first | exact HB.out | apply below_alloc | apply Zd | apply below_drew1) | exact HB.out)⟩⟩
              ·rw [if_neg c21] at H
               exact absurd H (by simp)
             ·rw [if_neg c20] at H
              have c20b0 : ((rd l0 x7_2) == (rd l1 x8_2)) = false := beq_eq_false_iff_ne.mpr c20
              have c20b1 : ((rd l0 x7_2) != (rd l1 x8_2)) = true := bne_iff_ne.mpr c20
              obtain ⟨ji25, hji25⟩ : ∃ j_ : Int, (wrap64 (x7_2 + 1)) = j_ := ⟨_, rfl⟩
              replace H : (if 0 ≤ (ji25) then (if (ji25) < (t147.length : Int) then (if x8_2 < ((rd_L9 t147 (ji25)).length : Int) then (if x7_2 < (t147.length : Int) then (if 0 ≤ (wrap64 (x8_2 + 1)) then (if (wrap64 (x8_2 + 1)) < ((rd_L9 t147 x7_2).length : Int) then (if (rd (rd_L9 t147 (ji25)) x8_2) ≥ (rd (rd_L9 t147 x7_2) (wrap64 (x8_2 + 1))) then (lcs_Match.l0 kj12 l0 l1 x5_2 t147 ji25 x8_2) else (lcs_Match.l0 kj12 l0 l1 x5_2 t147 x7_2 (wrap64 (x8_2 + 1)))) else (none)) else (none)) else (none)) else (none)) else (none)) else (none)) = some r := by first | (rw [hji25] at H; exact H) | (simp only [hji25] at H ⊢; exact H)
              have hji25w : (IntKind.i64.wrap (x7_2 + 1)) = ji25 := (i64_w _).trans hji25
              by_cases c26 : 0 ≤ (ji25)
              ·rw [if_pos c26] at H
               have c26b0 : decide (0 ≤ (ji25)) = true := decide_eq_true c26
               clear c26
               by_cases c27 : (ji25) < (t147.length : Int)
               ·rw [if_pos c27] at H
                have c27b0 : decide ((ji25) < (t147.length : Int)) = true := decide_eq_true c27
                clear c27
                by_cases c28 : x8_2 < ((rd_L9 t147 (ji25)).length : Int)
                ·rw [if_pos c28] at H
                 have c28b0 : decide (x8_2 < ((rd_L9 t147 (ji25)).length : Int)) = true := decide_eq_true c28
                 clear c28
                 by_cases c29 : x7_2 < (t147.length : Int)
                 ·rw [if_pos c29] at H
                  have c29b0 : decide (x7_2 < (t147.length : Int)) = true := decide_eq_true c29
                  clear c29
                  obtain ⟨ji30, hji30⟩ : ∃ j_ : Int, (wrap64 (x8_2 + 1)) = j_ := ⟨_, rfl⟩
                  replace H : (if 0 ≤ (ji30) then (if (ji30) < ((rd_L9 t147 x7_2).length : Int) then (if (rd (rd_L9 t147 (ji25)) x8_2) ≥ (rd (rd_L9 t147 x7_2) (ji30)) then (lcs_Match.l0 kj12 l0 l1 x5_2 t147 ji25 x8_2) else (lcs_Match.l0 kj12 l0 l1 x5_2 t147 x7_2 ji30)) else (none)) else (none)) = some r := by first | (rw [hji30] at H; exact H) | (simp only [hji30] at H ⊢; exact H)
                  have hji30w : (IntKind.i64.wrap (x8_2 + 1)) = ji30 := (i64_w _).trans hji30
                  by_cases c31 : 0 ≤ (ji30)
                  ·rw [if_pos c31] at H
                   have c31b0 : decide (0 ≤ (ji30)) = true := decide_eq_true c31
                   clear c31
                   by_cases c32 : (ji30) < ((rd_L9 t147 x7_2).length : Int)
                   ·rw [if_pos c32] at H
                    have c32b0 : decide ((ji30) < ((rd_L9 t147 x7_2).length : Int)) = true := decide_eq_true c32
                    clear c32
                    by_cases c33 : (rd (rd_L9 t147 (ji25)) x8_2) ≥ (rd (rd_L9 t147 x7_2) (ji30))
                    ·rw [if_pos c33] at H
                     have c33b0 : decide ((rd (rd_L9 t147 x7_2) (ji30)) ≤ (rd (rd_L9 t147 (ji25)) x8_2)) = true := decide_eq_true c33
                     clear c33
                     have H' := Zm H
                     clear H
                     have p150 : 0 ≤ (x7_2 : Int) := Zo (by first | (with_reducible assumption) | assumption)
                     have q150 : x7_2 < (l0.length : Int) := Zo (by first | (with_reducible assumption) | assumption)
                     obtain ⟨ad150, e150, hx150_0⟩ := Kd.at_int HR0.out x7_2 p150 q150
                     cases e150
                     replace hx150_0 := (HB.out.cell (World.block_lt_of_cell? w _ hx150_0)).trans hx150_0
                     replace p150 := eq_true p150
                     replace q150 := eq_true q150
                     have p151 : 0 ≤ (x8_2 : Int) := Zo (by first | (with_reducible assumption) | assumption)
                     have q151 : x8_2 < (l1.length : Int) := Zo (by first | (with_reducible assumption) | assumption)
                     obtain ⟨ad151, e151, hx151_0⟩ := Kd.at_int HR1.out x8_2 p151 q151
                     cases e151
                     replace hx151_0 := (HB.out.cell (World.block_lt_of_cell? w _ hx151_0)).trans hx151_0
                     replace p151 := eq_true p151
                     replace q151 := eq_true q151
                     obtain ⟨Ao34, co34, eo34⟩ := Kd.S_slice HO_6.out
                     subst eo34
                     have p153 : 0 ≤ ((ji25) : Int) := Zo (by first | (with_reducible assumption) | assumption)
                     have q153 : (ji25) < (t147.length : Int) := Zo (by first | (with_reducible assumption) | assumption)
                     obtain ⟨ad153, A153_0, c153_0, e153, hx153_0, hl153_0, hi153_0⟩ := at_L9 (Kd.S_reads' HO_6.out).2.2 (ji25) p153 q153
                     cases e153
                     obtain ⟨ce153, hce153, hMe153, hcc153⟩ := Kd.S_get HO_6.out [] (ji25) p153 (by first | exact q153 | exact Zo (by first | (with_reducible assumption) | assumption) | (have e_ := (Kd.S_reads' HO_6.out).1; omega))
                     obtain ⟨ve153_0, rfl, ge153_0⟩ := hMe153
                     have hv153_0 := hcc153 0 _ rfl
                     rw [Nat.add_zero, show ((Kd.slice 21 (Kd.int .i32))).sz = 1 from rfl, Nat.mul_one] at hv153_0
                     replace hv153_0 := Option.some.inj (hv153_0.symm.trans hx153_0)
                     rw [hv153_0] at ge153_0
                     have HL153_0 := Zm (show Kd.R (Kd.int .i32) 21 _ _ _ _ (rd_L9 t147 (ji25)) from ge153_0)
                     clear hv153_0 ge153_0
                     clear hcc153 hce153
                     have HR153_0 := Zm hi153_0
                     have HC153_0 := Zm hl153_0
                     clear hi153_0 hl153_0
                     replace p153 := eq_true p153
                     replace q153 := eq_true q153
                     have p154 : 0 ≤ (x8_2 : Int) := Zo (by first | (with_reducible assumption) | assumption)
                     have q154 : x8_2 < ((rd_L9 t147 (ji25)).length : Int) := Zo (by first | (with_reducible assumption) | assumption)
                     obtain ⟨ad154, e154, hx154_0⟩ := Kd.at_int (by repeat (first | (with_reducible exact HR153_0.out) | (with_reducible refine Kd.C_alloc ?_ _) | (with_reducible refine Kd.C_drewN ?_ _) | (with_reducible refine Kd.C_drew ?_) | exact HR153_0.out)) x8_2 p154 q154
                     cases e154
                     replace p154 := eq_true p154
                     replace q154 := eq_true q154
                     have p155 : 0 ≤ (x7_2 : Int) := Zo (by first | (with_reducible assumption) | assumption)
                     have q155 : x7_2 < (t147.length : Int) := Zo (by first | (with_reducible assumption) | assumption)
                     obtain ⟨ad155, A155_0, c155_0, e155, hx155_0, hl155_0, hi155_0⟩ := at_L9 (Kd.S_reads' HO_6.out).2.2 x7_2 p155 q155
                     obtain rfl : ad153 = ad155 := (by injection e155)
                     obtain ⟨ce155, hce155, hMe155, hcc155⟩ := Kd.S_get HO_6.out [] x7_2 p155 (by first | exact q155 | exact Zo (by first | (with_reducible assumption) | assumption) | (have e_ := (Kd.S_reads' HO_6.out).1; omega))
                     obtain ⟨ve155_0, rfl, ge155_0⟩ := hMe155
                     have hv155_0 := hcc155 0 _ rfl
                     rw [Nat.add_zero, show ((Kd.slice 21 (Kd.int .i32))).sz = 1 from rfl, Nat.mul_one] at hv155_0
                     replace hv155_0 := Option.some.inj (hv155_0.symm.trans hx155_0)
                     rw [hv155_0] at ge155_0
                     have HL155_0 := Zm (show Kd.R (Kd.int .i32) 21 _ _ _ _ (rd_L9 t147 x7_2) from ge155_0)
                     clear hv155_0 ge155_0
                     clear hcc155 hce155
                     have HR155_0 := Zm hi155_0
                     have HC155_0 := Zm hl155_0
                     clear hi155_0 hl155_0
                     replace p155 := eq_true p155
                     replace q155 := eq_true q155
                     have p156 : 0 ≤ ((ji30) : Int) := Zo (by first | (with_reducible assumption) | assumption)
                     have q156 : (ji30) < ((rd_L9 t147 x7_2).length : Int) := Zo (by first | (with_reducible assumption) | assumption)
                     obtain ⟨ad156, e156, hx156_0⟩ := Kd.at_int (by repeat (first | (with_reducible exact HR155_0.out) | (with_reducible refine Kd.C_alloc ?_ _) | (with_reducible refine Kd.C_drewN ?_ _) | (with_reducible refine Kd.C_drew ?_) | exact HR155_0.out)) (ji30) p156 q156
                     cases e156
                     replace p156 := eq_true p156
                     replace q156 := eq_true q156
                     go_wp2
                     repeat (go_quiet (fail); try go_wp2)
                     go_roundg kj12
                     case measure => have := HJ3.out; have := HK2.out; have := HJ12.out; omega
                     case rel => exact ⟨(x5_2), (ji25), (x8_2), (by first | rfl | (simp; done) | (simp only [← hji25] <;> (first | rfl | simp)) | (simp [*]; done)), (by first | rfl | (simp; done) | (simp [*]; done)), H', ⟨by have := HJ3.out; have := HK2.out; have := HJ12.out; omega⟩, ⟨by (with_reducible repeat (first | apply Kd.R_alloc | apply Kd.R_drewN | apply Kd.R_drew)); first | exact HO_5.out | exact Kd.R_mono HO_5.out (fun _ _ => trivial)⟩, ⟨by (with_reducible repeat (first | apply Kd.S_alloc | apply Kd.S_drewN | apply Kd.S_drew)); exact HO_6.out⟩, ⟨by repeat (first | (with_reducible first | exact HB.out | apply below_alloc | apply Zd | apply below_drew1) | exact HB.out)⟩⟩
                    ·rw [if_neg c33] at H
                     have c33b0 : decide ((rd (rd_L9 t147 x7_2) (ji30)) ≤ (rd (rd_L9 t147 (ji25)) x8_2)) = false := decide_eq_false c33
                     clear c33
                     have H' := Zm H
                     clear H
                     have p150 : 0 ≤ (x7_2 : Int) := Zo (by first | (with_reducible assumption) | assumption)
                     have q150 : x7_2 < (l0.length : Int) := Zo (by first | (with_reducible assumption) | assumption)
                     obtain ⟨ad150, e150, hx150_0⟩ := Kd.at_int HR0.out x7_2 p150 q150
                     cases e150
                     replace hx150_0 := (HB.out.cell (World.block_lt_of_cell? w _ hx150_0)).trans hx150_0
                     replace p150 := eq_true p150
                     replace q150 := eq_true q150
                     have p151 : 0 ≤ (x8_2 : Int) := Zo (by first | (with_reducible assumption) | assumption)
                     have q151 : x8_2 < (l1.length : Int) := Zo (by first | (with_reducible assumption) | assumption)
                     obtain ⟨ad151, e151, hx151_0⟩ := Kd.at_int HR1.out x8_2 p151 q151
                     cases e151
                     replace hx151_0 := (HB.out.cell (World.block_lt_of_cell? w _ hx151_0)).trans hx151_0
                     replace p151 := eq_true p151
                     replace q151 := eq_true q151
                     obtain ⟨Ao35, co35, eo35⟩ := Kd.S_slice HO_6.out
                     subst eo35
                     have p153 : 0 ≤ ((ji25) : Int) := Zo (by first | (with_reducible assumption) | assumption)
                     have q153 : (ji25) < (t147.length : Int) := Zo (by first | (with_reducible assumption) | assumption)
                     obtain ⟨ad153, A153_0, c153_0, e153, hx153_0, hl153_0, hi153_0⟩ := at_L9 (Kd.S_reads' HO_6.out).2.2 (ji25) p153 q153
                     cases e153
                     obtain ⟨ce153, hce153, hMe153, hcc153⟩ := Kd.S_get HO_6.out [] (ji25) p153 (by first | exact q153 | exact Zo (by first | (with_reducible assumption) | assumption) | (have e_ := (Kd.S_reads' HO_6.out).1; omega))
                     obtain ⟨ve153_0, rfl, ge153_0⟩ := hMe153
                     have hv153_0 := hcc153 0 _ rfl
                     rw [Nat.add_zero, show ((Kd.slice 21 (Kd.int .i32))).sz = 1 from rfl, Nat.mul_one] at hv153_0
                     replace hv153_0 := Option.some.inj (hv153_0.symm.trans hx153_0)
                     rw [hv153_0] at ge153_0
                     have HL153_0 := Zm (show Kd.R (Kd.int .i32) 21 _ _ _ _ (rd_L9 t147 (ji25)) from ge153_0)
                     clear hv153_0 ge153_0
                     clear hcc153 hce153
                     have HR153_0 := Zm hi153_0
                     have HC153_0 := Zm hl153_0
                     clear hi153_0 hl153_0
                     replace p153 := eq_true p153
                     replace q153 := eq_true q153
                     have p154 : 0 ≤ (x8_2 : Int) := Zo (by first | (with_reducible assumption) | assumption)
                     have q154 : x8_2 < ((rd_L9 t147 (ji25)).length : Int) := Zo (by first | (with_reducible assumption) | assumption)
                     obtain ⟨ad154, e154, hx154_0⟩ := Kd.at_int (by repeat (first | (with_reducible exact HR153_0.out) | (with_reducible refine Kd.C_alloc ?_ _) | (with_reducible refine Kd.C_drewN ?_ _) | (with_reducible refine Kd.C_drew ?_) | exact HR153_0.out)) x8_2 p154 q154
                     cases e154
                     replace p154 := eq_true p154
                     replace q154 := eq_true q154
                     have p155 : 0 ≤ (x7_2 : Int) := Zo (by first | (with_reducible assumption) | assumption)
                     have q155 : x7_2 < (t147.length : Int) := Zo (by first | (with_reducible assumption) | assumption)
                     obtain ⟨ad155, A155_0, c155_0, e155, hx155_0, hl155_0, hi155_0⟩ := at_L9 (Kd.S_reads' HO_6.out).2.2 x7_2 p155 q155
                     obtain rfl : ad153 = ad155 := (by injection e155)
                     obtain ⟨ce155, hce155, hMe155, hcc155⟩ := Kd.S_get HO_6.out [] x7_2 p155 (by first | exact q155 | exact Zo (by first | (with_reducible assumption) | assumption) | (have e_ := (Kd.S_reads' HO_6.out).1; omega))
                     obtain ⟨ve155_0, rfl, ge155_0⟩ := hMe155
                     have hv155_0 := hcc155 0 _ rfl
                     rw [Nat.add_zero, show ((Kd.slice 21 (Kd.int .i32))).sz = 1 from rfl, Nat.mul_one] at hv155_0
                     replace hv155_0 := Option.some.inj (hv155_0.symm.trans hx155_0)
                     rw [hv155_0] at ge155_0
                     have HL155_0 := Zm (show Kd.R (Kd.int .i32) 21 _ _ _ _ (rd_L9 t147 x7_2) from ge155_0)
                     clear hv155_0 ge155_0
                     clear hcc155 hce155
                     have HR155_0 := Zm hi155_0
                     have HC155_0 := Zm hl155_0
                     clear hi155_0 hl155_0
                     replace p155 := eq_true p155
                     replace q155 := eq_true q155
                     have p156 : 0 ≤ ((ji30) : Int) := Zo (by first | (with_reducible assumption) | assumption)
                     have q156 : (ji30) < ((rd_L9 t147 x7_2).length : Int) := Zo (by first | (with_reducible assumption) | assumption)
                     obtain ⟨ad156, e156, hx156_0⟩ := Kd.at_int (by repeat (first | (with_reducible exact HR155_0.out) | (with_reducible refine Kd.C_alloc ?_ _) | (with_reducible refine Kd.C_drewN ?_ _) | (with_reducible refine Kd.C_drew ?_) | exact HR155_0.out)) (ji30) p156 q156
                     cases e156
                     replace p156 := eq_true p156
                     replace q156 := eq_true q156
                     go_wp2
                     repeat (go_quiet (fail); try go_wp2)
                     go_roundg kj12
                     case measure => have := HJ3.out; have := HK2.out; have := HJ12.out; omega
                     case rel => exact ⟨(x5_2), (x7_2), (ji30), (by first | rfl | (simp; done) | (simp [*]; done)), (by first | rfl | (simp; done) | (simp only [← hji30] <;> (first | rfl | simp)) | (simp [*]; done)), H', ⟨by have := HJ3.out; have := HK2.out; have := HJ12.out; omega⟩, ⟨by (with_reducible repeat (first | apply Kd.R_alloc | apply Kd.R_drewN | apply Kd.R_drew)); first | exact HO_5.out | exact Kd.R_mono HO_5.out (fun _ _ => trivial)⟩, ⟨by (with_reducible repeat (first | apply Kd.S_alloc | apply Kd.S_drewN | apply Kd.S_drew)); exact HO_6.out⟩, ⟨by repeat (first | (with_reducible first | exact HB.out | apply below_alloc | apply Zd | apply below_drew1) | exact HB.out)⟩⟩
                   ·rw [if_neg c32] at H
                    exact absurd H (by simp)
                  ·rw [if_neg c31] at H
                   exact absurd H (by simp)
                 ·rw [if_neg c29] at H
                  exact absurd H (by simp)
                ·rw [if_neg c28] at H
                 exact absurd H (by simp)
               ·rw [if_neg c27] at H
                exact absurd H (by simp)
              ·rw [if_neg c26] at H
               exact absurd H (by simp)
            ·rw [if_neg c19] at H
             exact absurd H (by simp)
           ·rw [if_neg c18] at H
            exact absurd H (by simp)
          ·rw [if_neg c17] at H
           exact absurd H (by simp)
         ·rw [if_neg c16] at H
          exact absurd H (by simp)
        ·replace c15 := Bool.eq_false_iff.mpr c15
         subst c15
         have H1 : (some x5_2) = some r := by rw [if_neg (show ¬ (false = true) by decide)] at H; exact H
         clear H
         have H := H1
         clear H1
         obtain rfl := Option.some.inj H
         go_wp2
         repeat (go_quiet (fail); try go_wp2)
         go_ret
         exact ⟨_, by first | rfl | (simp [errW_none, errW_some] <;> rfl) | (simp [*, errW_none, errW_some] <;> rfl), by (with_reducible repeat (first | apply Kd.R_alloc | apply Kd.R_drewN | apply Kd.R_drew)); exact HO_5.out, by repeat (first | (with_reducible first | exact HB.out | apply below_alloc | apply Zd | apply below_drew1) | exact HB.out)⟩
/-! ### lcs_Texts: function 27 -/
def lcs_Texts.f (k : Nat) (l0 : List ByteArray) (l1 : List ByteArray) : Option (List Int) := (lcs_Numbers.f k (([l0, l1] : List (List ByteArray)))).bind fun t160 => (if 0 < (t160.length : Int) then (if 1 < (t160.length : Int) then ((lcs_Match.f k (rd_L2 t160 0) (rd_L2 t160 1)).bind fun t165 => (some t165)) else (none)) else (none))
theorem lcs_Texts.mono : ∀ a0 a1 k, LeO (lcs_Texts.f k a0 a1) (lcs_Texts.f (k + 1) a0 a1) := by
 intro a0 a1 k
 unfold lcs_Texts.f
 repeat' first
   | (with_reducible exact lcs_Match.mono _ _ _)
   | (with_reducible exact lcs_Numbers.mono _ _)
   | (with_reducible exact LeO.refl _)
   | (with_reducible exact LeO.none _)
   | (with_reducible refine LeO.ite ?_ ?_)
   | (with_reducible refine LeO.bind ?_ (fun _ => ?_))
   | exact lcs_Match.mono _ _ _
   | exact lcs_Numbers.mono _ _
   | exact LeO.none _
   | refine LeO.ite ?_ ?_
   | refine LeO.bind ?_ (fun _ => ?_)
def lcs_Texts.T2 : Bool × List (List Nat × List Nat) := (true, [([], []), ([0], [0]), ([1], [1]), ([], []), ([3], [3]), ([4], [4]), ([2, 5], [2, 5]), ([6, 6, 0, 1, 2, 3, 4, 5, 6], [6])])
def lcs_Texts.B2 : List Nat := [0, 1, 3, 0, 8, 24, 63, 127]
theorem lcs_Texts.tab2 : rtab .any (opsOf Try.f27 2) = lcs_Texts.T2 := by kernel_rfl
theorem lcs_Texts.bits2 : waitsOk lcs_Texts.T2.2 lcs_Texts.B2 = true := by kernel_rfl
set_option maxHeartbeats 8000000 in
set_option maxRecDepth 100000 in
theorem lcs_Texts.calls (k : Nat) (P0_ : Nat → Prop) (A0 : Option Addr) (c0 : Nat) (l0 : List ByteArray) (P1_ : Nat → Prop) (A1 : Option Addr) (c1 : Nat) (l1 : List ByteArray) (r : List Int) (w : World) (hs0 : Kd.V Kd.string 9 w w.heap.size (fun k_ => P0_ k_) (.slice A0 l0.length c0) l0) (hs1 : Kd.V Kd.string 9 w w.heap.size (fun k_ => P1_ k_) (.slice A1 l1.length c1) l1) (h : lcs_Texts.f k l0 l1 = some r) :
  Calls Try.prog 27 #[.slice A0 l0.length c0, .slice A1 l1.length c1] w fun e w' => ∃ v0_ : Value, e = .returned (v0_) ∧ Kd.R (Kd.int .i64) 3 w' w.heap.size (fun k_ => (w.heap.size ≤ k_)) v0_ r ∧ Below w.heap.size w w' := by
 have HO0 := Zm (show Kd.V Kd.string 9 w w.heap.size (fun k_ => ((P0_ k_ ∨ P1_ k_) ∨ w.heap.size ≤ k_)) (.slice A0 l0.length c0) l0 from Kd.V_mono hs0 (fun k_ hk => .inl (.inl hk)))
 have HO1 := Zm (show Kd.V Kd.string 9 w w.heap.size (fun k_ => ((P0_ k_ ∨ P1_ k_) ∨ w.heap.size ≤ k_)) (.slice A1 l1.length c1) l1 from Kd.V_mono hs1 (fun k_ hk => .inl (.inr hk)))
 have HB := Zm (Below.refl w.heap.size w)
 have H : ((lcs_Numbers.f k (([l0, l1] : List (List ByteArray)))).bind fun t160 => (if 0 < (t160.length : Int) then (if 1 < (t160.length : Int) then ((lcs_Match.f k (rd_L2 t160 0) (rd_L2 t160 1)).bind fun t165 => (some t165)) else (none)) else (none))) = some r := h
 clear h
 obtain ⟨y157, hy157⟩ : ∃ y_ : List (List ByteArray), y_ = (([l0, l1] : List (List ByteArray))) := ⟨_, rfl⟩
 replace H : ((lcs_Numbers.f k y157).bind fun t160 => (if 0 < (t160.length : Int) then (if 1 < (t160.length : Int) then ((lcs_Match.f k (rd_L2 t160 0) (rd_L2 t160 1)).bind fun t165 => (some t165)) else (none)) else (none))) = some r := by first | (rw [hy157]; with_reducible exact H) | (have H2_ := (Option.bind_some _ _).symm.trans H; rw [hy157]; with_reducible exact H2_) | (have H2_ := (Option.bind_some _ _).symm.trans H; with_reducible exact H2_) | with_reducible exact H | (rw [hy157]; exact H) | exact H
 have Ny157 := Zm hy157
 clear hy157
 replace H := Option.bind_eq_some_iff.mp H
 obtain ⟨t160, A30, H⟩ := H
 replace H : (if 0 < (t160.length : Int) then (if 1 < (t160.length : Int) then ((lcs_Match.f k (rd_L2 t160 0) (rd_L2 t160 1)).bind fun t165 => (some t165)) else (none)) else (none)) = some r := H
 have A3 := Zm A30
 clear A30
 by_cases c4 : 0 < (t160.length : Int)
 ·rw [if_pos c4] at H
  have c4b0 : decide (0 < (t160.length : Int)) = true := decide_eq_true c4
  have c4b1 : decide (0 < t160.length) = true := decide_eq_true (by omega)
  clear c4
  by_cases c5 : 1 < (t160.length : Int)
  ·rw [if_pos c5] at H
   have c5b0 : decide (1 < (t160.length : Int)) = true := decide_eq_true c5
   have c5b1 : decide (1 < t160.length) = true := decide_eq_true (by omega)
   clear c5
   replace H := Option.bind_eq_some_iff.mp H
   obtain ⟨t165, A60, H⟩ := H
   replace H : (some t165) = some r := H
   have A6 := Zm A60
   clear A60
   obtain rfl := Option.some.inj H
   go_enter Try.func27, Try.ntmps27
   try go_wp2_with (first | ((with_reducible refine gate_dst (N := 8) rfl ?_); refine Kd.N_lit (Kd.slice 9 Kd.string) _ 25 ?hg (N' := 8) ?hd (xs := ([l0, l1] : List (List ByteArray))) (inner := [.slice A0 l0.length c0, .slice A1 l1.length c1]) (ok := (fun k_ => ((P0_ k_ ∨ P1_ k_) ∨ w.heap.size ≤ k_))) (okp := (fun k_ => ((P0_ k_ ∨ P1_ k_) ∨ w.heap.size ≤ k_))) ?hr ?hp (fun _ hk => hk) ((show ∀ k_, w.heap.size ≤ k_ → (fun k_ => ((P0_ k_ ∨ P1_ k_) ∨ w.heap.size ≤ k_)) k_ from fun k_ hk => (.inr (Nat.le_trans (below_size (by repeat (first | (with_reducible first | exact HB.out | apply below_alloc | apply Zd | apply below_drew1) | exact HB.out))) hk))) _ (Nat.le_refl _)) (Below.refl _ _) (Nat.le_refl _) (by simp) ?_; (case hd => rfl); (case hg => rfl); (case hr => first | (go_simp; done) | (go_simp; rfl)); (case hp => exact (Reps.one (show Kd.FK (Kd.slice 9 Kd.string) _ _ l0 [.slice A0 l0.length c0] from (Kd.FK_slice_mk (Kd.V_reads' (Kd.V_mono (ok' := (fun k_ => ((P0_ k_ ∨ P1_ k_) ∨ w.heap.size ≤ k_))) (HO0.out) (fun k_ hk => hk))).2.1 (Kd.V_F (Kd.V_mono (ok' := (fun k_ => ((P0_ k_ ∨ P1_ k_) ∨ w.heap.size ≤ k_))) (HO0.out) (fun k_ hk => hk))))) (Reps.one (show Kd.FK (Kd.slice 9 Kd.string) _ _ l1 [.slice A1 l1.length c1] from (Kd.FK_slice_mk (Kd.V_reads' (Kd.V_mono (ok' := (fun k_ => ((P0_ k_ ∨ P1_ k_) ∨ w.heap.size ≤ k_))) (HO1.out) (fun k_ hk => hk))).2.1 (Kd.V_F (Kd.V_mono (ok' := (fun k_ => ((P0_ k_ ∨ P1_ k_) ∨ w.heap.size ≤ k_))) (HO1.out) (fun k_ hk => hk))))) (Reps.none _ _)))); intro v158 w7 ho8 hb hg_ hnew_; clear hg_ hnew_; (first | rw [← Ny157.out] at ho8 | (simp only [Int.reduceToNat] at ho8; rw [← Ny157.out] at ho8)); have n0_ := Zm (Kd.V_elder' (by (with_reducible repeat (first | apply Kd.V_alloc | apply Kd.V_drewN | apply Kd.V_drew)); exact HO0.out) (by first | exact Kd.N_base ho8 | exact Kd.S_base ho8 | exact Kd.R_base ho8) hb); have n1_ := Zm (Kd.V_elder' (by (with_reducible repeat (first | apply Kd.V_alloc | apply Kd.V_drewN | apply Kd.V_drew)); exact HO1.out) (by first | exact Kd.N_base ho8 | exact Kd.S_base ho8 | exact Kd.R_base ho8) hb); have n2_ := Zm (Kd.N_lower ho8 (below_size (by repeat (first | (with_reducible first | exact HB.out | apply below_alloc | apply Zd | apply below_drew1) | exact HB.out)))); have n3_ := Zm (below_step (by repeat (first | (with_reducible first | exact HB.out | apply below_alloc | apply Zd | apply below_drew1) | exact HB.out)) hb); clear HO0; clear HO1; clear HB; have HO0 := n0_; have HO1 := n1_; have HO159 := n2_; have HB := n3_; clear n0_ n1_ n2_ n3_; clear hb ho8; obtain ⟨Ao9, co9, eo9⟩ := Kd.N_slice HO159.out; subst eo9) | ((with_reducible refine gate_callee (f := 32) rfl ?_); refine goesL_ (some 9) rfl rfl Try.func32 (by kernel_rfl) rfl #[.slice Ao9 y157.length co9] rfl (by (try simp only [List.map_toArray, List.map_cons, List.map_nil]); first | done | rfl | (simp only [List.length_drop, List.length_take]; rfl)) ?_; (with_reducible refine (lcs_Numbers.calls k _ _ y157 t160 _ ?side1 ?side2 A3.out).mono ?_); (case side1 => repeat (first | exact (Kd.N_reads' HO159.out).2.2 | (with_reducible refine Kd.C_alloc ?_ _) | (with_reducible refine Kd.C_drewN ?_ _) | (with_reducible refine Kd.C_drew ?_))); (case side2 => exact (Kd.N_reads' HO159.out).2.1); rintro e w10 ⟨v161, rfl, ho0, hb⟩; refine ⟨_, rfl, ?_⟩; have n0_ := Zm (Kd.V_elder' (by (with_reducible repeat (first | apply Kd.V_alloc | apply Kd.V_drewN | apply Kd.V_drew)); exact HO0.out) (by first | exact Kd.N_base ho0 | exact Kd.S_base ho0 | exact Kd.R_base ho0) hb); have n1_ := Zm (Kd.V_elder' (by (with_reducible repeat (first | apply Kd.V_alloc | apply Kd.V_drewN | apply Kd.V_drew)); exact HO1.out) (by first | exact Kd.N_base ho0 | exact Kd.S_base ho0 | exact Kd.R_base ho0) hb); have n2_ := Zm (Kd.N_elder' (by (with_reducible repeat (first | apply Kd.N_alloc | apply Kd.N_drewN | apply Kd.N_drew)); exact HO159.out) (by first | exact Kd.N_base ho0 | exact Kd.S_base ho0 | exact Kd.R_base ho0) hb); have n3_ := Zm (Kd.N_lower (Kd.N_mono (ok' := fun k_ => ((P0_ k_ ∨ P1_ k_) ∨ w.heap.size ≤ k_) ∧ some k_ ≠ (.slice Ao9 y157.length co9 : Value).ownBlock) (Kd.S_N (Kd.S_bound ho0)) (fun k_ hk_ => ⟨(.inr (Nat.le_trans (below_size (by repeat (first | (with_reducible first | exact HB.out | apply below_alloc | apply Zd | apply below_drew1) | exact HB.out))) hk_.2.1)), (Kd.fresh' (Kd.N_lt (by (with_reducible repeat (first | apply Kd.N_alloc | apply Kd.N_drewN | apply Kd.N_drew)); exact HO159.out)) k_ hk_.2.1)⟩)) (below_size (by repeat (first | (with_reducible first | exact HB.out | apply below_alloc | apply Zd | apply below_drew1) | exact HB.out)))); have n4_ := Zm (below_step (by repeat (first | (with_reducible first | exact HB.out | apply below_alloc | apply Zd | apply below_drew1) | exact HB.out)) hb); clear HO0; clear HO1; clear HO159; clear HB; have HO0 := n0_; have HO1 := n1_; have HO159 := n2_; have HO162 := n3_; have HB := n4_; clear n0_ n1_ n2_ n3_ n4_; (try clear hb); (try clear hb2); (try clear hk); (try clear hi); (try clear ho0)))
   have n0_ := Zm (Kd.V_drew HO0.out)
   have n1_ := Zm (Kd.V_drew HO1.out)
   have n2_ := Zm (Kd.N_drew HO159.out)
   have n3_ := Zm (Kd.N_drew HO162.out)
   have n4_ := Zm (below_drew1 HB.out)
   clear HO0
   clear HO1
   clear HO159
   clear HO162
   clear HB
   have HO0 := n0_
   have HO1 := n1_
   have HO159 := n2_
   have HO162 := n3_
   have HB := n4_
   clear n0_ n1_ n2_ n3_ n4_
   obtain ⟨Ao12, co12, eo12⟩ := Kd.N_slice HO162.out
   (first | subst eo12 | (injection eo12 with f1_ f2_ f3_; have f4_ := f1_.symm; have f5_ := f3_.symm; clear f1_ f2_ f3_; subst f4_; subst f5_))
   have p163 : 0 ≤ (0 : Int) := (by omega)
   have q163 : 0 < (t160.length : Int) := Zo (by first | (with_reducible assumption) | assumption)
   obtain ⟨ad163, A163_0, c163_0, e163, hx163_0, hl163_0, hi163_0⟩ := at_L2 (Kd.N_reads' HO162.out).2.2 0 p163 q163
   cases e163
   obtain ⟨ce163, hce163, hMe163, hcc163⟩ := Kd.N_get HO162.out [] 0 p163 (by first | exact q163 | exact Zo (by first | (with_reducible assumption) | assumption) | (have e_ := (Kd.N_reads' HO162.out).1; omega))
   obtain ⟨ua163_0, uc163_0, rfl, ul163_0, ge163_0⟩ := Kd.FK_slice_open hMe163
   have hv163_0 := hcc163 0 _ rfl
   rw [Nat.add_zero, show ((Kd.slice 3 (Kd.int .i64))).sz = 1 from rfl, Nat.mul_one] at hv163_0
   replace hv163_0 := Option.some.inj (hv163_0.symm.trans hx163_0)
   injection hv163_0 with hva_ hvn_ hvc_
   rw [hva_] at ge163_0
   rw [hvc_] at ul163_0
   have HL163_0 := Zm (show Kd.V (Kd.int .i64) 3 _ w.heap.size _ _ (rd_L2 t160 0) from Kd.V_mk ul163_0 ge163_0)
   clear hva_ hvn_ hvc_ ge163_0 ul163_0
   clear hcc163 hce163
   have qi163 : (0 < t160.length) = True := eq_true (by omega)
   (try rw [show ((0 : Int)).toNat = 0 from rfl] at hx163_0)
   (try rw [Addr.add_zero'] at hx163_0)
   have HR163_0 := Zm hi163_0
   have HC163_0 := Zm hl163_0
   clear hi163_0 hl163_0
   replace p163 := eq_true p163
   replace q163 := eq_true q163
   have p164 : 0 ≤ (1 : Int) := (by omega)
   have q164 : 1 < (t160.length : Int) := Zo (by first | (with_reducible assumption) | assumption)
   obtain ⟨ad164, A164_0, c164_0, e164, hx164_0, hl164_0, hi164_0⟩ := at_L2 (Kd.N_reads' HO162.out).2.2 1 p164 q164
   obtain rfl : ad163 = ad164 := (by injection e164)
   obtain ⟨ce164, hce164, hMe164, hcc164⟩ := Kd.N_get HO162.out [] 1 p164 (by first | exact q164 | exact Zo (by first | (with_reducible assumption) | assumption) | (have e_ := (Kd.N_reads' HO162.out).1; omega))
   obtain ⟨ua164_0, uc164_0, rfl, ul164_0, ge164_0⟩ := Kd.FK_slice_open hMe164
   have hv164_0 := hcc164 0 _ rfl
   rw [Nat.add_zero, show ((Kd.slice 3 (Kd.int .i64))).sz = 1 from rfl, Nat.mul_one] at hv164_0
   replace hv164_0 := Option.some.inj (hv164_0.symm.trans hx164_0)
   injection hv164_0 with hva_ hvn_ hvc_
   rw [hva_] at ge164_0
   rw [hvc_] at ul164_0
   have HL164_0 := Zm (show Kd.V (Kd.int .i64) 3 _ w.heap.size _ _ (rd_L2 t160 1) from Kd.V_mk ul164_0 ge164_0)
   clear hva_ hvn_ hvc_ ge164_0 ul164_0
   clear hcc164 hce164
   (try simp only [show (1 : Int).toNat = 1 from rfl, Nat.reduceMul, Nat.reduceEqDiff, Go.Addr.add, ↓reduceIte] at hx164_0)
   have qi164 : (1 < t160.length) = True := eq_true (by omega)
   (try rw [show ((1 : Int)).toNat = 1 from rfl] at hx164_0)
   have HR164_0 := Zm hi164_0
   have HC164_0 := Zm hl164_0
   clear hi164_0 hl164_0
   replace p164 := eq_true p164
   replace q164 := eq_true q164
   refine start_ (n := 8) (S := fun w' => w'.cell? ad163 = some (.slice A163_0 (rd_L2 t160 0).length c163_0) ∧ w'.cell? ⟨ad163.block, ad163.off + 1, none⟩ = some (.slice A164_0 (rd_L2 t160 1).length c164_0)) (ds := []) #[false, false, false, false, false, false, false, false] (by kernel_rfl) rfl rfl ⟨hx163_0, hx164_0⟩ (fun hHeld => ?_); refine with_tabW lcs_Texts.tab2 lcs_Texts.bits2 (fun HT_ HW_ => ?_)
   generalize w10.drew = w11 at HO0 HO1 HO159 HO162 HB HL163_0 HL164_0 HR163_0 HR164_0 hx163_0 hx164_0 hHeld ⊢
   refine pure_ (i := 0) (N := some 10) (v := ?_) (a' := ?_) #[true, false, false, false, false, false, false, false] rfl rfl (any_of HT_.out (by kernel_rfl)) (fun _ _ _ h => h) (Or.inl ⟨by rfl, ?_⟩) ?_ ?_
   rotate_left
   ·intro w'
    go_simp
    with_reducible rfl
   rotate_left
   ·simp only [Act.put, List.setIfInBounds_toArray, List.set_cons_zero, List.set_cons_succ, i64_w, i32_w]
    rfl
   refine pure_ (i := 1) (N := some 11) (v := ?_) (a' := ?_) #[true, true, false, false, false, false, false, false] rfl rfl (any_of HT_.out (by kernel_rfl)) (fun _ _ _ h => h) (Or.inl ⟨by rfl, ?_⟩) ?_ ?_
   rotate_left
   ·intro w'
    go_simp
    with_reducible rfl
   rotate_left
   ·simp only [Act.put, List.setIfInBounds_toArray, List.set_cons_zero, List.set_cons_succ, i64_w, i32_w]
    rfl
   refine pure_ (i := 3) (N := some 13) (v := ?_) (a' := ?_) #[true, true, false, true, false, false, false, false] rfl rfl (any_of HT_.out (by kernel_rfl)) (fun _ _ _ h => h) (Or.inl ⟨by rfl, ?_⟩) ?_ ?_
   rotate_left
   ·intro w'
    go_simp
    with_reducible rfl
   rotate_left
   ·simp only [Act.put, List.setIfInBounds_toArray, List.set_cons_zero, List.set_cons_succ, i64_w, i32_w]
    rfl
   refine pure_ (i := 4) (N := some 14) (v := ?_) (a' := ?_) #[true, true, false, true, true, false, false, false] rfl rfl (any_of HT_.out (by kernel_rfl)) (fun _ _ _ h => h) (Or.inl ⟨by rfl, ?_⟩) ?_ ?_
   rotate_left
   ·intro w'
    go_simp
    with_reducible rfl
   rotate_left
   ·simp only [Act.put, List.setIfInBounds_toArray, List.set_cons_zero, List.set_cons_succ, i64_w, i32_w]
    rfl
   refine take_ (i := 2) (N := some 12) (v := ?_) (a' := ?_) #[true, true, true, true, true, false, false, false] rfl rfl (take_ofW HT_.out HW_.out (by kernel_rfl)) (fun _ _ _ h => h) (Or.inl ⟨by rfl, ?_⟩) hHeld ?_ ?_
   rotate_left
   ·rintro w' ⟨s0, s1⟩
    go_simp
    with_reducible rfl
   rotate_left
   ·simp only [Act.put, List.setIfInBounds_toArray, List.set_cons_zero, List.set_cons_succ, i64_w, i32_w]
    rfl
   refine take_ (i := 5) (N := some 15) (v := ?_) (a' := ?_) #[true, true, true, true, true, true, false, false] rfl rfl (take_ofW HT_.out HW_.out (by kernel_rfl)) (fun _ _ _ h => h) (Or.inl ⟨by rfl, ?_⟩) hHeld ?_ ?_
   rotate_left
   ·rintro w' ⟨s0, s1⟩
    go_simp
    with_reducible rfl
   rotate_left
   ·simp only [Act.put, List.setIfInBounds_toArray, List.set_cons_zero, List.set_cons_succ, i64_w, i32_w]
    rfl
   refine one_ (i := 6) (N := some 16) #[true, true, true, true, true, true, true, false] rfl rfl (one_of HT_.out (by kernel_rfl)) (by decide) (fun K hK => ?_)
   refine goes_ Try.func33 (by kernel_rfl) rfl #[.slice A163_0 (rd_L2 t160 0).length c163_0, .slice A164_0 (rd_L2 t160 1).length c164_0] (by rfl) rfl rfl (by (try simp only [List.map_toArray, List.map_cons, List.map_nil]); first | done | rfl | (simp only [List.length_drop, List.length_take]; rfl)) ?_
   with_reducible refine (lcs_Match.calls k _ _ (rd_L2 t160 0) _ _ (rd_L2 t160 1) t165 _ ?side1 ?side2 ?side3 ?side4 A6.out).mono ?_
   (case side1 => repeat (first | exact (by repeat (first | (with_reducible exact HR163_0.out) | (with_reducible refine Kd.C_alloc ?_ _) | (with_reducible refine Kd.C_drewN ?_ _) | (with_reducible refine Kd.C_drew ?_) | exact HR163_0.out)) | (with_reducible refine Kd.C_alloc ?_ _) | (with_reducible refine Kd.C_drewN ?_ _) | (with_reducible refine Kd.C_drew ?_)))
   (case side2 => exact HC163_0.out)
   (case side3 => repeat (first | exact (by repeat (first | (with_reducible exact HR164_0.out) | (with_reducible refine Kd.C_alloc ?_ _) | (with_reducible refine Kd.C_drewN ?_ _) | (with_reducible refine Kd.C_drew ?_) | exact HR164_0.out)) | (with_reducible refine Kd.C_alloc ?_ _) | (with_reducible refine Kd.C_drewN ?_ _) | (with_reducible refine Kd.C_drew ?_)))
   (case side4 => exact HC164_0.out)
   rintro e w13 ⟨v166, rfl, ho0, hb⟩
   have HS0_ := (hb.cell (World.block_lt_of_cell? _ _ (hHeld.1))).trans (hHeld.1)
   have HS1_ := (hb.cell (World.block_lt_of_cell? _ _ (hHeld.2))).trans (hHeld.2)
   refine ⟨_, rfl, ?_⟩
   have n0_ := Zm (Kd.V_elder' (by (with_reducible repeat (first | apply Kd.V_alloc | apply Kd.V_drewN | apply Kd.V_drew)); exact HO0.out) (Kd.R_base ho0) hb)
   have n1_ := Zm (Kd.V_elder' (by (with_reducible repeat (first | apply Kd.V_alloc | apply Kd.V_drewN | apply Kd.V_drew)); exact HO1.out) (Kd.R_base ho0) hb)
   have n2_ := Zm (Kd.N_elder' (by (with_reducible repeat (first | apply Kd.N_alloc | apply Kd.N_drewN | apply Kd.N_drew)); exact HO159.out) (Kd.R_base ho0) hb)
   have n3_ := Zm (Kd.N_elder' (by (with_reducible repeat (first | apply Kd.N_alloc | apply Kd.N_drewN | apply Kd.N_drew)); exact HO162.out) (Kd.R_base ho0) hb)
   have n4_ := Zm (Kd.V_elder' (by (with_reducible repeat (first | apply Kd.V_alloc | apply Kd.V_drewN | apply Kd.V_drew)); exact HL163_0.out) (Kd.R_base ho0) hb)
   have n5_ := Zm (Kd.V_elder' (by (with_reducible repeat (first | apply Kd.V_alloc | apply Kd.V_drewN | apply Kd.V_drew)); exact HL164_0.out) (Kd.R_base ho0) hb)
   have n6_ := Zm (Kd.R_lower (Kd.R_newM (M := fun k_ => (w.heap.size ≤ k_)) ho0 (below_size (by repeat (first | (with_reducible first | exact HB.out | apply below_alloc | apply Zd | apply below_drew1) | exact HB.out))) (fun k_ h_ => h_)) (below_size (by repeat (first | (with_reducible first | exact HB.out | apply below_alloc | apply Zd | apply below_drew1) | exact HB.out))))
   have n7_ := Zm (Kd.C_below (by repeat (first | (with_reducible exact HR163_0.out) | (with_reducible refine Kd.C_alloc ?_ _) | (with_reducible refine Kd.C_drewN ?_ _) | (with_reducible refine Kd.C_drew ?_) | exact HR163_0.out)) hb)
   have n8_ := Zm (Kd.C_below (by repeat (first | (with_reducible exact HR164_0.out) | (with_reducible refine Kd.C_alloc ?_ _) | (with_reducible refine Kd.C_drewN ?_ _) | (with_reducible refine Kd.C_drew ?_) | exact HR164_0.out)) hb)
   have n9_ := Zm (below_step (by repeat (first | (with_reducible first | exact HB.out | apply below_alloc | apply Zd | apply below_drew1) | exact HB.out)) hb)
   clear HO0
   clear HO1
   clear HO159
   clear HO162
   clear HL163_0
   clear HL164_0
   clear HR163_0
   clear HR164_0
   clear HB
   have HO0 := n0_
   have HO1 := n1_
   have HO159 := n2_
   have HO162 := n3_
   have HL163_0 := n4_
   have HL164_0 := n5_
   have HO167 := n6_
   have HR163_0 := n7_
   have HR164_0 := n8_
   have HB := n9_
   clear n0_ n1_ n2_ n3_ n4_ n5_ n6_ n7_ n8_ n9_
   (try clear hb)
   (try clear hb2)
   (try clear hk)
   (try clear hi)
   (try clear ho0)
   refine hK.out _ _ ⟨HS0_, HS1_⟩ (fun hHeld => ?_)
   clear hK K
   refine norm_ (a' := ?_) ?_ ?_
   rotate_left
   ·show Act.put _ (some 16) _ = _
    simp only [Act.put, List.setIfInBounds_toArray, List.set_cons_zero, List.set_cons_succ, i64_w, i32_w]
    rfl
   refine pure_ (i := 7) (N := some 4) (v := ?_) (a' := ?_) #[true, true, true, true, true, true, true, true] rfl rfl (any_of HT_.out (by kernel_rfl)) (fun _ _ _ h => h) (Or.inl ⟨by rfl, ?_⟩) ?_ ?_
   rotate_left
   ·intro w'
    go_simp
    with_reducible rfl
   rotate_left
   ·simp only [Act.put, List.setIfInBounds_toArray, List.set_cons_zero, List.set_cons_succ, i64_w, i32_w]
    rfl
   refine done_ (done_of HT_.out (by kernel_rfl)) ?_
   try go_wp2
   go_ret
   exact ⟨_, by first | rfl | (simp [errW_none, errW_some] <;> rfl) | (simp [*, errW_none, errW_some] <;> rfl), by (with_reducible repeat (first | apply Kd.R_alloc | apply Kd.R_drewN | apply Kd.R_drew)); exact Kd.R_mono HO167.out (fun _ hk => hk.1), by repeat (first | (with_reducible first | exact HB.out | apply below_alloc | apply Zd | apply below_drew1) | exact HB.out)⟩
  ·rw [if_neg c5] at H
   exact absurd H (by simp)
 ·rw [if_neg c4] at H
  exact absurd H (by simp)
/-! ### hunk_Texts: function 11 -/
def hunk_Texts.f (k : Nat) (l0 : List ByteArray) (l1 : List ByteArray) : Option ((List (S40))) := (lcs_Texts.f k l0 l1).bind fun t168 => ((hunk_Of.f k t168 (l1.length : Int)).bind fun t171 => (some t171))
theorem hunk_Texts.mono : ∀ a0 a1 k, LeO (hunk_Texts.f k a0 a1) (hunk_Texts.f (k + 1) a0 a1) := by
 intro a0 a1 k
 unfold hunk_Texts.f
 repeat' first
   | (with_reducible exact hunk_Of.mono _ _ _)
   | (with_reducible exact lcs_Texts.mono _ _ _)
   | (with_reducible exact LeO.refl _)
   | (with_reducible exact LeO.none _)
   | (with_reducible refine LeO.ite ?_ ?_)
   | (with_reducible refine LeO.bind ?_ (fun _ => ?_))
   | exact hunk_Of.mono _ _ _
   | exact lcs_Texts.mono _ _ _
   | exact LeO.none _
   | refine LeO.ite ?_ ?_
   | refine LeO.bind ?_ (fun _ => ?_)
set_option maxHeartbeats 8000000 in
set_option maxRecDepth 100000 in
theorem hunk_Texts.calls (k : Nat) (A0 : Option Addr) (c0 : Nat) (l0 : List ByteArray) (A1 : Option Addr) (c1 : Nat) (l1 : List ByteArray) (r : List (S40)) (w : World) (hr0 : Kd.C Kd.string w A0 l0.length l0) (hc0 : l0.length ≤ c0) (hr1 : Kd.C Kd.string w A1 l1.length l1) (hc1 : l1.length ≤ c1) (h : hunk_Texts.f k l0 l1 = some r) :
  Calls Try.prog 11 #[.slice A0 l0.length c0, .slice A1 l1.length c1] w fun e w' => ∃ v0_ : Value, e = .returned (v0_) ∧ Kd.R k40 40 w' w.heap.size (fun _ => True) v0_ r ∧ Below w.heap.size w w' := by
 have HR0 := Zm hr0
 have HC0 := Zm hc0
 clear hr0 hc0
 have HR1 := Zm hr1
 have HC1 := Zm hc1
 clear hr1 hc1
 have HB := Zm (Below.refl w.heap.size w)
 have H : ((lcs_Texts.f k l0 l1).bind fun t168 => ((hunk_Of.f k t168 (l1.length : Int)).bind fun t171 => (some t171))) = some r := h
 clear h
 replace H := Option.bind_eq_some_iff.mp H
 obtain ⟨t168, A30, H⟩ := H
 replace H : ((hunk_Of.f k t168 (l1.length : Int)).bind fun t171 => (some t171)) = some r := H
 have A3 := Zm A30
 clear A30
 replace H := Option.bind_eq_some_iff.mp H
 obtain ⟨t171, A40, H⟩ := H
 replace H : (some t171) = some r := H
 have A4 := Zm A40
 clear A40
 obtain rfl := Option.some.inj H
 go_enter Try.func11, Try.ntmps11
 go_wp2_with (first | ((with_reducible refine gate_callee (f := 27) rfl ?_); refine goesL_ (some 7) rfl rfl Try.func27 (by kernel_rfl) rfl #[.slice A0 l0.length c0, .slice A1 l1.length c1] rfl (by (try simp only [List.map_toArray, List.map_cons, List.map_nil]); first | done | rfl | (simp only [List.length_drop, List.length_take]; rfl)) ?_; (with_reducible refine (lcs_Texts.calls k (fun k_ => k_ < w.heap.size) _ _ l0 (fun k_ => k_ < w.heap.size) _ _ l1 t168 _ ?side1 ?side2 A3.out).mono ?_); (case side1 => exact Kd.V_mk HC0.out (Kd.F_below (Kd.C_F Kd.heap_string HR0.out) (by repeat (first | (with_reducible first | exact HB.out | apply below_alloc | apply Zd | apply below_drew1) | exact HB.out)))); (case side2 => exact Kd.V_mk HC1.out (Kd.F_below (Kd.C_F Kd.heap_string HR1.out) (by repeat (first | (with_reducible first | exact HB.out | apply below_alloc | apply Zd | apply below_drew1) | exact HB.out)))); rintro e w5 ⟨v169, rfl, ho0, hb⟩; refine ⟨_, rfl, ?_⟩; have n0_ := Zm (Kd.R_lower (Kd.R_mono (ok' := fun k_ => True) ho0 (fun _ hk_ => trivial)) (below_size (by repeat (first | (with_reducible first | exact HB.out | apply below_alloc | apply Zd | apply below_drew1) | exact HB.out)))); have n1_ := Zm (below_step (by repeat (first | (with_reducible first | exact HB.out | apply below_alloc | apply Zd | apply below_drew1) | exact HB.out)) hb); clear HB; have HO170 := n0_; have HB := n1_; clear n0_ n1_; (try clear hb); (try clear hb2); (try clear hk); (try clear hi); (try clear ho0); obtain ⟨Ao6, co6, eo6⟩ := Kd.R_slice HO170.out; subst eo6) | ((with_reducible refine gate_callee (f := 9) rfl ?_); refine goesL_ (some 10) rfl rfl Try.func9 (by kernel_rfl) rfl #[.slice Ao6 t168.length co6, .int .i64 (l1.length : Int)] rfl (by (try simp only [List.map_toArray, List.map_cons, List.map_nil]); first | done | rfl | (simp only [List.length_drop, List.length_take]; rfl)) ?_; (with_reducible refine (hunk_Of.calls k _ _ t168 (l1.length : Int) t171 _ ?side1 ?side2 A4.out).mono ?_); (case side1 => repeat (first | exact (Kd.R_reads' HO170.out).2.2 | (with_reducible refine Kd.C_alloc ?_ _) | (with_reducible refine Kd.C_drewN ?_ _) | (with_reducible refine Kd.C_drew ?_))); (case side2 => exact (Kd.R_reads' HO170.out).2.1); rintro e w7 ⟨v172, rfl, ho0, hb⟩; refine ⟨_, rfl, ?_⟩; have n0_ := Zm (Kd.R_below (by (with_reducible repeat (first | apply Kd.R_alloc | apply Kd.R_drewN | apply Kd.R_drew)); exact HO170.out) hb); have n1_ := Zm (Kd.R_lower ho0 (below_size (by repeat (first | (with_reducible first | exact HB.out | apply below_alloc | apply Zd | apply below_drew1) | exact HB.out)))); have n2_ := Zm (below_step (by repeat (first | (with_reducible first | exact HB.out | apply below_alloc | apply Zd | apply below_drew1) | exact HB.out)) hb); clear HO170; clear HB; have HO170 := n0_; have HO173 := n1_; have HB := n2_; clear n0_ n1_ n2_; (try clear hb); (try clear hb2); (try clear hk); (try clear hi); (try clear ho0)))
 go_ret
 exact ⟨_, by first | rfl | (simp [errW_none, errW_some] <;> rfl) | (simp [*, errW_none, errW_some] <;> rfl), by (with_reducible repeat (first | apply Kd.R_alloc | apply Kd.R_drewN | apply Kd.R_drew)); exact HO173.out, by repeat (first | (with_reducible first | exact HB.out | apply below_alloc | apply Zd | apply below_drew1) | exact HB.out)⟩
end Go.Proofs.Ytphghffdaceaoaa.PHunk
