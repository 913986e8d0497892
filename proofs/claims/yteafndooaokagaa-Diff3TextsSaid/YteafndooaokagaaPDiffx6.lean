/- Laid by a program of this session out of the seat's translation. -/
import Derived.Test.YteafndooaokagaaPDiffx0
import Derived.Test.YteafndooaokagaaPDiffx3
import Derived.Test.YteafndooaokagaaPDiffx4
import Derived.Test.YteafndooaokagaaPDiffx5
namespace Go.Proofs.Yteafndooaokagaa.PDiff
open Go.RowKit Go.Proofs.YteafndooaokagaaW.PrintWords Go.Proofs.YteafndooaokagaaW.PrintLast Go.Proofs.YteafndooaokagaaW.PrintMore
attribute [local go_sem] max2_int min2_int max_two min_two max_three min_three max_four min_four   -- for this text's walks alone
set_option linter.unusedVariables false
set_option linter.unusedSimpArgs false
/-! ### lcs_Match: function 34 -/
mutual
def lcs_Match.j0 : Nat → List Int → List Int → List Int → Bool → Option (List Int)
 | 0, _, _, _, _ => none
 | k + 1, x0, x1, x5, x19 => if x19 = true then ((lcs_ends.f k x0 x1 x5).bind fun bt146 => (some bt146.2.2)) else ((lcs_left.f k x0 x1).bind fun t149 => (lcs_Match.l0 k x0 x1 x5 t149 0 0))
def lcs_Match.l0 : Nat → List Int → List Int → List Int → List (List Int) → Int → Int → Option (List Int)
 | 0, _, _, _, _, _, _ => none
 | k + 1, x0, x1, x5, x6, x7, x8 => if x7 < (x0.length : Int) then (lcs_Match.j2 k x0 x1 x5 x6 x7 x8 (decide (x8 < (x1.length : Int)))) else (lcs_Match.j2 k x0 x1 x5 x6 x7 x8 false)
def lcs_Match.j2 : Nat → List Int → List Int → List Int → List (List Int) → Int → Int → Bool → Option (List Int)
 | 0, _, _, _, _, _, _, _ => none
 | k + 1, x0, x1, x5, x6, x7, x8, x37 => if x37 = true then (if 0 ≤ x7 then (if x7 < (x0.length : Int) then (if 0 ≤ x8 then (if x8 < (x1.length : Int) then (if (rd x0 x7) = (rd x1 x8) then (if x7 < (x5.length : Int) then (lcs_Match.l0 k x0 x1 (x5.set (x7 : Int).toNat x8) x6 (wrap64 (x7 + 1)) (wrap64 (x8 + 1))) else (none)) else (if 0 ≤ (wrap64 (x7 + 1)) then (if (wrap64 (x7 + 1)) < (x6.length : Int) then (if x8 < ((rd_L2 x6 (wrap64 (x7 + 1))).length : Int) then (if x7 < (x6.length : Int) then (if 0 ≤ (wrap64 (x8 + 1)) then (if (wrap64 (x8 + 1)) < ((rd_L2 x6 x7).length : Int) then (if (rd (rd_L2 x6 (wrap64 (x7 + 1))) x8) ≥ (rd (rd_L2 x6 x7) (wrap64 (x8 + 1))) then (lcs_Match.l0 k x0 x1 x5 x6 (wrap64 (x7 + 1)) x8) else (lcs_Match.l0 k x0 x1 x5 x6 x7 (wrap64 (x8 + 1)))) else (none)) else (none)) else (none)) else (none)) else (none)) else (none))) else (none)) else (none)) else (none)) else (none)) else (some x5)
end
def lcs_Match.f (k : Nat) (l0 : List Int) (l1 : List Int) : Option (List Int) := (lcs_none.f k (l0.length : Int)).bind fun t143 => (if (l0.length : Int) > 2000 then (lcs_Match.j0 k l0 l1 t143 true) else (lcs_Match.j0 k l0 l1 t143 (decide ((l1.length : Int) > 2000))))
theorem lcs_Match.mono_l : ∀ k, (∀ y0 y1 y2 y3, LeO (lcs_Match.j0 k y0 y1 y2 y3) (lcs_Match.j0 (k + 1) y0 y1 y2 y3)) ∧ (∀ y0 y1 y2 y3 y4 y5, LeO (lcs_Match.l0 k y0 y1 y2 y3 y4 y5) (lcs_Match.l0 (k + 1) y0 y1 y2 y3 y4 y5)) ∧ (∀ y0 y1 y2 y3 y4 y5 y6, LeO (lcs_Match.j2 k y0 y1 y2 y3 y4 y5 y6) (lcs_Match.j2 (k + 1) y0 y1 y2 y3 y4 y5 y6))
 | 0 => ⟨fun _ _ _ _ r h => by simp [lcs_Match.j0] at h, fun _ _ _ _ _ _ r h => by simp [lcs_Match.l0] at h, fun _ _ _ _ _ _ _ r h => by simp [lcs_Match.j2] at h⟩
 | k + 1 => by
  obtain ⟨ih0, ih1, ih2⟩ := lcs_Match.mono_l k
  refine ⟨?_, ?_, ?_⟩
  ·intro y0 y1 y2 y3
   unfold lcs_Match.j0
   repeat' first
   | (with_reducible exact ih0 _ _ _ _)
   | (with_reducible exact ih1 _ _ _ _ _ _)
   | (with_reducible exact ih2 _ _ _ _ _ _ _)
   | (with_reducible exact lcs_ends.mono _ _ _ _)
   | (with_reducible exact lcs_left.mono _ _ _)
   | (with_reducible exact lcs_none.mono _ _)
   | (with_reducible exact LeO.refl _)
   | (with_reducible exact LeO.none _)
   | (with_reducible refine LeO.ite ?_ ?_)
   | (with_reducible refine LeO.bind ?_ (fun _ => ?_))
   | exact ih0 _ _ _ _
   | exact ih1 _ _ _ _ _ _
   | exact ih2 _ _ _ _ _ _ _
   | exact lcs_ends.mono _ _ _ _
   | exact lcs_left.mono _ _ _
   | exact lcs_none.mono _ _
   | exact LeO.none _
   | refine LeO.ite ?_ ?_
   | refine LeO.bind ?_ (fun _ => ?_)
  ·intro y0 y1 y2 y3 y4 y5
   unfold lcs_Match.l0
   repeat' first
   | (with_reducible exact ih0 _ _ _ _)
   | (with_reducible exact ih1 _ _ _ _ _ _)
   | (with_reducible exact ih2 _ _ _ _ _ _ _)
   | (with_reducible exact lcs_ends.mono _ _ _ _)
   | (with_reducible exact lcs_left.mono _ _ _)
   | (with_reducible exact lcs_none.mono _ _)
   | (with_reducible exact LeO.refl _)
   | (with_reducible exact LeO.none _)
   | (with_reducible refine LeO.ite ?_ ?_)
   | (with_reducible refine LeO.bind ?_ (fun _ => ?_))
   | exact ih0 _ _ _ _
   | exact ih1 _ _ _ _ _ _
   | exact ih2 _ _ _ _ _ _ _
   | exact lcs_ends.mono _ _ _ _
   | exact lcs_left.mono _ _ _
   | exact lcs_none.mono _ _
   | exact LeO.none _
   | refine LeO.ite ?_ ?_
   | refine LeO.bind ?_ (fun _ => ?_)
  ·intro y0 y1 y2 y3 y4 y5 y6
   unfold lcs_Match.j2
   repeat' first
   | (with_reducible exact ih0 _ _ _ _)
   | (with_reducible exact ih1 _ _ _ _ _ _)
   | (with_reducible exact ih2 _ _ _ _ _ _ _)
   | (with_reducible exact lcs_ends.mono _ _ _ _)
   | (with_reducible exact lcs_left.mono _ _ _)
   | (with_reducible exact lcs_none.mono _ _)
   | (with_reducible exact LeO.refl _)
   | (with_reducible exact LeO.none _)
   | (with_reducible refine LeO.ite ?_ ?_)
   | (with_reducible refine LeO.bind ?_ (fun _ => ?_))
   | exact ih0 _ _ _ _
   | exact ih1 _ _ _ _ _ _
   | exact ih2 _ _ _ _ _ _ _
   | exact lcs_ends.mono _ _ _ _
   | exact lcs_left.mono _ _ _
   | exact lcs_none.mono _ _
   | exact LeO.none _
   | refine LeO.ite ?_ ?_
   | refine LeO.bind ?_ (fun _ => ?_)
theorem lcs_Match.mono : ∀ a0 a1 k, LeO (lcs_Match.f k a0 a1) (lcs_Match.f (k + 1) a0 a1) := by
 intro a0 a1 k
 obtain ⟨ih0, ih1, ih2⟩ := lcs_Match.mono_l k
 unfold lcs_Match.f
 repeat' first
   | (with_reducible exact ih0 _ _ _ _)
   | (with_reducible exact ih1 _ _ _ _ _ _)
   | (with_reducible exact ih2 _ _ _ _ _ _ _)
   | (with_reducible exact lcs_ends.mono _ _ _ _)
   | (with_reducible exact lcs_left.mono _ _ _)
   | (with_reducible exact lcs_none.mono _ _)
   | (with_reducible exact LeO.refl _)
   | (with_reducible exact LeO.none _)
   | (with_reducible refine LeO.ite ?_ ?_)
   | (with_reducible refine LeO.bind ?_ (fun _ => ?_))
   | exact ih0 _ _ _ _
   | exact ih1 _ _ _ _ _ _
   | exact ih2 _ _ _ _ _ _ _
   | exact lcs_ends.mono _ _ _ _
   | exact lcs_left.mono _ _ _
   | exact lcs_none.mono _ _
   | exact LeO.none _
   | refine LeO.ite ?_ ?_
   | refine LeO.bind ?_ (fun _ => ?_)
set_option maxHeartbeats 8000000 in
set_option maxRecDepth 100000 in
theorem lcs_Match.calls (k : Nat) (A0 : Option Addr) (c0 : Nat) (l0 : List Int) (A1 : Option Addr) (c1 : Nat) (l1 : List Int) (r : List Int) (w : World) (hr0 : Kd.C (Kd.int .i64) w A0 l0.length l0) (hc0 : l0.length ≤ c0) (hr1 : Kd.C (Kd.int .i64) w A1 l1.length l1) (hc1 : l1.length ≤ c1) (h : lcs_Match.f k l0 l1 = some r) :
  Calls Try.prog 34 #[.slice A0 l0.length c0, .slice A1 l1.length c1] w fun e w' => ∃ v0_ : Value, e = .returned (v0_) ∧ Kd.R (Kd.int .i64) 3 w' w.heap.size (fun _ => True) v0_ r ∧ Below w.heap.size w w' := by
 have HR0 := Zm hr0
 have HC0 := Zm hc0
 clear hr0 hc0
 have HR1 := Zm hr1
 have HC1 := Zm hc1
 clear hr1 hc1
 have HB := Zm (Below.refl w.heap.size w)
 have H : ((lcs_none.f k (l0.length : Int)).bind fun t143 => (if (l0.length : Int) > 2000 then (lcs_Match.j0 k l0 l1 t143 true) else (lcs_Match.j0 k l0 l1 t143 (decide ((l1.length : Int) > 2000))))) = some r := h
 clear h
 replace H := Option.bind_eq_some_iff.mp H
 obtain ⟨t143, A30, H⟩ := H
 replace H : (if (l0.length : Int) > 2000 then (lcs_Match.j0 k l0 l1 t143 true) else (lcs_Match.j0 k l0 l1 t143 (decide ((l1.length : Int) > 2000)))) = some r := H
 have A3 := Zm A30
 clear A30
 have HC4 := Zm H
 clear H
 go_enter Try.func34, Try.ntmps34
 go_upto_region 2 with (first | (go_at_call 44; (with_reducible refine (lcs_none.calls k (l0.length : Int) t143 _ A3.out).mono ?_); rintro e w5 ⟨v144, rfl, ho0, hb⟩; have n0_ := Zm (Kd.R_lower ho0 (below_size (by repeat (first | (with_reducible first | exact HB.out | apply below_alloc | apply Zd | apply below_drew1) | exact HB.out)))); have n1_ := Zm (below_step (by repeat (first | (with_reducible first | exact HB.out | apply below_alloc | apply Zd | apply below_drew1) | exact HB.out)) hb); clear HB; have HO145 := n0_; have HB := n1_; clear n0_ n1_; (try clear hb); (try clear hb2); (try clear hk); (try clear hi); (try clear ho0)))
 repeat (go_quiet (first | (go_at_call 44; (with_reducible refine (lcs_none.calls k (l0.length : Int) t143 _ A3.out).mono ?_); rintro e w5 ⟨v144, rfl, ho0, hb⟩; have n0_ := Zm (Kd.R_lower ho0 (below_size (by repeat (first | (with_reducible first | exact HB.out | apply below_alloc | apply Zd | apply below_drew1) | exact HB.out)))); have n1_ := Zm (below_step (by repeat (first | (with_reducible first | exact HB.out | apply below_alloc | apply Zd | apply below_drew1) | exact HB.out)) hb); clear HB; have HO145 := n0_; have HB := n1_; clear n0_ n1_; (try clear hb); (try clear hb2); (try clear hk); (try clear hi); (try clear ho0))); go_upto_region 2 with (first | (go_at_call 44; (with_reducible refine (lcs_none.calls k (l0.length : Int) t143 _ A3.out).mono ?_); rintro e w5 ⟨v144, rfl, ho0, hb⟩; have n0_ := Zm (Kd.R_lower ho0 (below_size (by repeat (first | (with_reducible first | exact HB.out | apply below_alloc | apply Zd | apply below_drew1) | exact HB.out)))); have n1_ := Zm (below_step (by repeat (first | (with_reducible first | exact HB.out | apply below_alloc | apply Zd | apply below_drew1) | exact HB.out)) hb); clear HB; have HO145 := n0_; have HB := n1_; clear n0_ n1_; (try clear hb); (try clear hb2); (try clear hk); (try clear hi); (try clear ho0))))
 (try simp only [Act.put, List.setIfInBounds_toArray, List.set_cons_zero, List.set_cons_succ])
 go_cut [19] (fun v19 wc => ∃ (kq : Nat) (x19_3 : Bool), v19 = .bool x19_3 ∧ Aside0 (lcs_Match.j0 kq l0 l1 t143 x19_3 = some r) ∧ Aside0 (kq ≤ k) ∧ Aside0 (Kd.R (Kd.int .i64) 3 wc w.heap.size (fun _ => True) v144 t143) ∧ Aside0 (Below w.heap.size w wc))
 case first =>
  have H := HC4.out
  clear HC4
  by_cases c6 : (l0.length : Int) > 2000
  ·rw [if_pos c6] at H
   have c6b0 : decide (2000 < (l0.length : Int)) = true := decide_eq_true c6
   have c6b1 : decide (2000 < l0.length) = true := decide_eq_true (by omega)
   clear c6
   (first | rw [c6b0] | (simp only [i64_w, i32_w]; rw [c6b0]) | skip)
   have H' := Zm H
   clear H
   go_wp2
   repeat (go_quiet (fail); try go_wp2)
   go_meet
   case rel => exact ⟨_, (true), (by first | rfl | (simp; done) | (simp [*]; done)), H', ⟨by first | omega | exact Nat.le_refl _⟩, ⟨by (with_reducible repeat (first | apply Kd.R_alloc | apply Kd.R_drewN | apply Kd.R_drew)); first | exact HO145.out | exact Kd.R_mono HO145.out (fun _ _ => trivial)⟩, ⟨by repeat (first | (with_reducible first | exact HB.out | apply below_alloc | apply Zd | apply below_drew1) | exact HB.out)⟩⟩
  ·rw [if_neg c6] at H
   have c6b0 : decide (2000 < (l0.length : Int)) = false := decide_eq_false c6
   have c6b1 : decide (2000 < l0.length) = false := decide_eq_false (by omega)
   clear c6
   (first | rw [c6b0] | (simp only [i64_w, i32_w]; rw [c6b0]) | skip)
   have H' := Zm H
   clear H
   go_wp2
   repeat (go_quiet (fail); try go_wp2)
   go_meet
   case rel => exact ⟨_, (decide ((l1.length : Int) > 2000)), (by first | rfl | (simp; done) | (simp [*]; done)), H', ⟨by first | omega | exact Nat.le_refl _⟩, ⟨by (with_reducible repeat (first | apply Kd.R_alloc | apply Kd.R_drewN | apply Kd.R_drew)); first | exact HO145.out | exact Kd.R_mono HO145.out (fun _ _ => trivial)⟩, ⟨by repeat (first | (with_reducible first | exact HB.out | apply below_alloc | apply Zd | apply below_drew1) | exact HB.out)⟩⟩
 case rest =>
  clear HC4
  try clear c1
  try clear p2
  try clear c3
  try clear c6
  try clear c6b0
  try clear c6b1
  obtain ⟨kq, x19_3, rfl, HA, HJ3, HO_5, HB⟩ := hcut
  cases kq with
  | zero => exact absurd HA.out (by simp [lcs_Match.j0])
  | succ kj3 =>
   have H := HA.out
   clear HA
   simp only [lcs_Match.j0] at H
   by_cases c7 : x19_3 = true
   ·subst c7
    have H1 : ((lcs_ends.f kj3 l0 l1 t143).bind fun bt146 => (some bt146.2.2)) = some r := by rw [if_pos rfl] at H; exact H
    clear H
    have H := H1
    clear H1
    replace H := Option.bind_eq_some_iff.mp H
    obtain ⟨⟨t146, t147, t148⟩, A80, H⟩ := H
    replace H : (some t148) = some r := H
    have A8 := Zm A80
    clear A80
    obtain rfl := Option.some.inj H
    obtain ⟨Ao9, co9, eo9⟩ := Kd.R_slice HO_5.out
    subst eo9
    go_wp2_with (first | (go_at_call 45; (with_reducible refine (lcs_ends.calls kj3 _ _ l0 _ _ l1 (fun k_ => some k_ = (.slice Ao9 t143.length co9 : Value).ownBlock) (.slice Ao9 t143.length co9) t143 t146 t147 t148 w _ ?side1 ?side2 ?side3 ?side4 ?side5 ?side6 A8.out).mono ?_); (case side1 => repeat (first | (with_reducible first | exact HB.out | apply below_alloc | apply Zd | apply below_drew1) | exact HB.out)); (case side2 => exact Kd.C_kept_came (Kd.heap_int .i64) HR0.out (by repeat (first | (with_reducible first | exact HB.out | apply below_alloc | apply Zd | apply below_drew1) | exact HB.out)) (fun k_ hs_ => (fun e_ => Kd.R_base HO_5.out k_ e_.symm) hs_)); (case side3 => exact HC0.out); (case side4 => exact Kd.C_kept_came (Kd.heap_int .i64) HR1.out (by repeat (first | (with_reducible first | exact HB.out | apply below_alloc | apply Zd | apply below_drew1) | exact HB.out)) (fun k_ hs_ => (fun e_ => Kd.R_base HO_5.out k_ e_.symm) hs_)); (case side5 => exact HC1.out); (case side6 => exact Kd.R_tight rfl HO_5.out); rintro e w10 ⟨rfl, hy0, hb, hkp⟩; have n0_ := Zm (Kd.R_reok rfl hy0 (fun k_ e_ => HO_5.out.1 k_ e_)); have n1_ := Zm (hb); clear HO_5; clear HB; have HO_5 := n0_; have HB := n1_; clear n0_ n1_; (try clear hb); (try clear hkp); (try clear hy0)))
    repeat (go_quiet (first | (go_at_call 45; (with_reducible refine (lcs_ends.calls kj3 _ _ l0 _ _ l1 (fun k_ => some k_ = (.slice Ao9 t143.length co9 : Value).ownBlock) (.slice Ao9 t143.length co9) t143 t146 t147 t148 w _ ?side1 ?side2 ?side3 ?side4 ?side5 ?side6 A8.out).mono ?_); (case side1 => repeat (first | (with_reducible first | exact HB.out | apply below_alloc | apply Zd | apply below_drew1) | exact HB.out)); (case side2 => exact Kd.C_kept_came (Kd.heap_int .i64) HR0.out (by repeat (first | (with_reducible first | exact HB.out | apply below_alloc | apply Zd | apply below_drew1) | exact HB.out)) (fun k_ hs_ => (fun e_ => Kd.R_base HO_5.out k_ e_.symm) hs_)); (case side3 => exact HC0.out); (case side4 => exact Kd.C_kept_came (Kd.heap_int .i64) HR1.out (by repeat (first | (with_reducible first | exact HB.out | apply below_alloc | apply Zd | apply below_drew1) | exact HB.out)) (fun k_ hs_ => (fun e_ => Kd.R_base HO_5.out k_ e_.symm) hs_)); (case side5 => exact HC1.out); (case side6 => exact Kd.R_tight rfl HO_5.out); rintro e w10 ⟨rfl, hy0, hb, hkp⟩; have n0_ := Zm (Kd.R_reok rfl hy0 (fun k_ e_ => HO_5.out.1 k_ e_)); have n1_ := Zm (hb); clear HO_5; clear HB; have HO_5 := n0_; have HB := n1_; clear n0_ n1_; (try clear hb); (try clear hkp); (try clear hy0))); try go_wp2_with (first | (go_at_call 45; (with_reducible refine (lcs_ends.calls kj3 _ _ l0 _ _ l1 (fun k_ => some k_ = (.slice Ao9 t143.length co9 : Value).ownBlock) (.slice Ao9 t143.length co9) t143 t146 t147 t148 w _ ?side1 ?side2 ?side3 ?side4 ?side5 ?side6 A8.out).mono ?_); (case side1 => repeat (first | (with_reducible first | exact HB.out | apply below_alloc | apply Zd | apply below_drew1) | exact HB.out)); (case side2 => exact Kd.C_kept_came (Kd.heap_int .i64) HR0.out (by repeat (first | (with_reducible first | exact HB.out | apply below_alloc | apply Zd | apply below_drew1) | exact HB.out)) (fun k_ hs_ => (fun e_ => Kd.R_base HO_5.out k_ e_.symm) hs_)); (case side3 => exact HC0.out); (case side4 => exact Kd.C_kept_came (Kd.heap_int .i64) HR1.out (by repeat (first | (with_reducible first | exact HB.out | apply below_alloc | apply Zd | apply below_drew1) | exact HB.out)) (fun k_ hs_ => (fun e_ => Kd.R_base HO_5.out k_ e_.symm) hs_)); (case side5 => exact HC1.out); (case side6 => exact Kd.R_tight rfl HO_5.out); rintro e w10 ⟨rfl, hy0, hb, hkp⟩; have n0_ := Zm (Kd.R_reok rfl hy0 (fun k_ e_ => HO_5.out.1 k_ e_)); have n1_ := Zm (hb); clear HO_5; clear HB; have HO_5 := n0_; have HB := n1_; clear n0_ n1_; (try clear hb); (try clear hkp); (try clear hy0))))
    go_ret
    exact ⟨_, by first | rfl | (simp [errW_none, errW_some] <;> rfl) | (simp [*, errW_none, errW_some] <;> rfl), by (with_reducible repeat (first | apply Kd.R_alloc | apply Kd.R_drewN | apply Kd.R_drew)); exact HO_5.out, by repeat (first | (with_reducible first | exact HB.out | apply below_alloc | apply Zd | apply below_drew1) | exact HB.out)⟩
   ·replace c7 := Bool.eq_false_iff.mpr c7
    subst c7
    have H1 : ((lcs_left.f kj3 l0 l1).bind fun t149 => (lcs_Match.l0 kj3 l0 l1 t143 t149 0 0)) = some r := by rw [if_neg (show ¬ (false = true) by decide)] at H; exact H
    clear H
    have H := H1
    clear H1
    replace H := Option.bind_eq_some_iff.mp H
    obtain ⟨t149, A110, H⟩ := H
    replace H : (lcs_Match.l0 kj3 l0 l1 t143 t149 0 0) = some r := H
    have A11 := Zm A110
    clear A110
    have H' := Zm H
    clear H
    go_wp2_with (first | (go_at_call 46; (with_reducible refine (lcs_left.calls kj3 _ _ l0 _ _ l1 t149 _ ?side1 ?side2 ?side3 ?side4 A11.out).mono ?_); (case side1 => repeat (first | exact (Kd.C_below HR0.out HB.out) | (with_reducible refine Kd.C_alloc ?_ _) | (with_reducible refine Kd.C_drewN ?_ _) | (with_reducible refine Kd.C_drew ?_))); (case side2 => exact HC0.out); (case side3 => repeat (first | exact (Kd.C_below HR1.out HB.out) | (with_reducible refine Kd.C_alloc ?_ _) | (with_reducible refine Kd.C_drewN ?_ _) | (with_reducible refine Kd.C_drew ?_))); (case side4 => exact HC1.out); rintro e w12 ⟨v150, rfl, ho0, hb⟩; have n0_ := Zm (Kd.R_below (by (with_reducible repeat (first | apply Kd.R_alloc | apply Kd.R_drewN | apply Kd.R_drew)); exact HO_5.out) hb); have n1_ := Zm (Kd.S_lower ho0 (below_size (by repeat (first | (with_reducible first | exact HB.out | apply below_alloc | apply Zd | apply below_drew1) | exact HB.out)))); have n2_ := Zm (below_step (by repeat (first | (with_reducible first | exact HB.out | apply below_alloc | apply Zd | apply below_drew1) | exact HB.out)) hb); clear HO_5; clear HB; have HO_5 := n0_; have HO151 := n1_; have HB := n2_; clear n0_ n1_ n2_; (try clear hb); (try clear hb2); (try clear hk); (try clear hi); (try clear ho0)))
    repeat (go_quiet (first | (go_at_call 46; (with_reducible refine (lcs_left.calls kj3 _ _ l0 _ _ l1 t149 _ ?side1 ?side2 ?side3 ?side4 A11.out).mono ?_); (case side1 => repeat (first | exact (Kd.C_below HR0.out HB.out) | (with_reducible refine Kd.C_alloc ?_ _) | (with_reducible refine Kd.C_drewN ?_ _) | (with_reducible refine Kd.C_drew ?_))); (case side2 => exact HC0.out); (case side3 => repeat (first | exact (Kd.C_below HR1.out HB.out) | (with_reducible refine Kd.C_alloc ?_ _) | (with_reducible refine Kd.C_drewN ?_ _) | (with_reducible refine Kd.C_drew ?_))); (case side4 => exact HC1.out); rintro e w12 ⟨v150, rfl, ho0, hb⟩; have n0_ := Zm (Kd.R_below (by (with_reducible repeat (first | apply Kd.R_alloc | apply Kd.R_drewN | apply Kd.R_drew)); exact HO_5.out) hb); have n1_ := Zm (Kd.S_lower ho0 (below_size (by repeat (first | (with_reducible first | exact HB.out | apply below_alloc | apply Zd | apply below_drew1) | exact HB.out)))); have n2_ := Zm (below_step (by repeat (first | (with_reducible first | exact HB.out | apply below_alloc | apply Zd | apply below_drew1) | exact HB.out)) hb); clear HO_5; clear HB; have HO_5 := n0_; have HO151 := n1_; have HB := n2_; clear n0_ n1_ n2_; (try clear hb); (try clear hb2); (try clear hk); (try clear hi); (try clear ho0))); try go_wp2_with (first | (go_at_call 46; (with_reducible refine (lcs_left.calls kj3 _ _ l0 _ _ l1 t149 _ ?side1 ?side2 ?side3 ?side4 A11.out).mono ?_); (case side1 => repeat (first | exact (Kd.C_below HR0.out HB.out) | (with_reducible refine Kd.C_alloc ?_ _) | (with_reducible refine Kd.C_drewN ?_ _) | (with_reducible refine Kd.C_drew ?_))); (case side2 => exact HC0.out); (case side3 => repeat (first | exact (Kd.C_below HR1.out HB.out) | (with_reducible refine Kd.C_alloc ?_ _) | (with_reducible refine Kd.C_drewN ?_ _) | (with_reducible refine Kd.C_drew ?_))); (case side4 => exact HC1.out); rintro e w12 ⟨v150, rfl, ho0, hb⟩; have n0_ := Zm (Kd.R_below (by (with_reducible repeat (first | apply Kd.R_alloc | apply Kd.R_drewN | apply Kd.R_drew)); exact HO_5.out) hb); have n1_ := Zm (Kd.S_lower ho0 (below_size (by repeat (first | (with_reducible first | exact HB.out | apply below_alloc | apply Zd | apply below_drew1) | exact HB.out)))); have n2_ := Zm (below_step (by repeat (first | (with_reducible first | exact HB.out | apply below_alloc | apply Zd | apply below_drew1) | exact HB.out)) hb); clear HO_5; clear HB; have HO_5 := n0_; have HO151 := n1_; have HB := n2_; clear n0_ n1_ n2_; (try clear hb); (try clear hb2); (try clear hk); (try clear hi); (try clear ho0))))
    go_loopg [7, 8] kj3 (fun kq v7 v8 w' => ∃ (x5_2 : List Int) (x7_2 : Int) (x8_2 : Int), v7 = .int .i64 x7_2 ∧ v8 = .int .i64 x8_2 ∧ Aside0 (lcs_Match.l0 kq l0 l1 x5_2 t149 x7_2 x8_2 = some r) ∧ Aside0 (kq ≤ kj3) ∧ Aside0 (Kd.R (Kd.int .i64) 3 w' w.heap.size (fun _ => True) v144 x5_2) ∧ Aside0 (Kd.S (Kd.slice 21 (Kd.int .i32)) 71 w' w.heap.size (fun _ => True) v150 t149) ∧ Aside0 (Below w.heap.size w w'))
    case atStart => exact ⟨(t143), (0), (0), (by first | rfl | (simp; done) | (simp [*]; done)), (by first | rfl | (simp; done) | (simp [*]; done)), H', ⟨Nat.le_refl _⟩, ⟨by (with_reducible repeat (first | apply Kd.R_alloc | apply Kd.R_drewN | apply Kd.R_drew)); first | exact HO_5.out | exact Kd.R_mono HO_5.out (fun _ _ => trivial)⟩, ⟨by (with_reducible repeat (first | apply Kd.S_alloc | apply Kd.S_drewN | apply Kd.S_drew)); exact HO151.out⟩, ⟨by repeat (first | (with_reducible first | exact HB.out | apply below_alloc | apply Zd | apply below_drew1) | exact HB.out)⟩⟩
    case round =>
     clear H'
     try clear c1
     try clear p2
     try clear c3
     try clear c6
     try clear c6b0
     try clear c6b1
     try clear c7
     try clear p2
     obtain ⟨x5_2, x7_2, x8_2, rfl, rfl, HA, HK2, HO_5, HO_6, HB⟩ := hrel
     cases gk with
     | zero => exact absurd HA.out (by simp [lcs_Match.l0])
     | succ k2 =>
      have H := HA.out
      clear HA
      simp only [lcs_Match.l0] at H
      have HC13 := Zm H
      clear H
      go_upto_region 7 with (fail)
      repeat (go_quiet (fail); go_upto_region 7 with (fail))
      go_cut [37] (fun v37 wc => ∃ (kq : Nat) (x37_12 : Bool), v37 = .bool x37_12 ∧ Aside0 (lcs_Match.j2 kq l0 l1 x5_2 t149 x7_2 x8_2 x37_12 = some r) ∧ Aside0 (kq ≤ k2) ∧ Aside0 (Kd.R (Kd.int .i64) 3 wc w.heap.size (fun _ => True) v144 x5_2) ∧ Aside0 (Kd.S (Kd.slice 21 (Kd.int .i32)) 71 wc w.heap.size (fun _ => True) v150 t149) ∧ Aside0 (Below w.heap.size w wc))
      case first =>
       have H := HC13.out
       clear HC13
       by_cases c14 : x7_2 < (l0.length : Int)
       ·rw [if_pos c14] at H
        have c14b0 : decide (x7_2 < (l0.length : Int)) = true := decide_eq_true c14
        clear c14
        (first | rw [c14b0] | (simp only [i64_w, i32_w]; rw [c14b0]) | skip)
        have H' := Zm H
        clear H
        go_wp2
        repeat (go_quiet (fail); try go_wp2)
        go_meet
        case rel => exact ⟨_, (decide (x8_2 < (l1.length : Int))), (by first | rfl | (simp; done) | (simp [*]; done)), H', ⟨by have := HJ3.out; have := HK2.out; first | omega | exact Nat.le_refl _⟩, ⟨by (with_reducible repeat (first | apply Kd.R_alloc | apply Kd.R_drewN | apply Kd.R_drew)); first | exact HO_5.out | exact Kd.R_mono HO_5.out (fun _ _ => trivial)⟩, ⟨by (with_reducible repeat (first | apply Kd.S_alloc | apply Kd.S_drewN | apply Kd.S_drew)); exact HO_6.out⟩, ⟨by repeat (first | (with_reducible first | exact HB.out | apply below_alloc | apply Zd | apply below_drew1) | exact HB.out)⟩⟩
       ·rw [if_neg c14] at H
        have c14b0 : decide (x7_2 < (l0.length : Int)) = false := decide_eq_false c14
        clear c14
        (first | rw [c14b0] | (simp only [i64_w, i32_w]; rw [c14b0]) | skip)
        have H' := Zm H
        clear H
        go_wp2
        repeat (go_quiet (fail); try go_wp2)
        go_meet
        case rel => exact ⟨_, (false), (by first | rfl | (simp; done) | (simp [*]; done)), H', ⟨by have := HJ3.out; have := HK2.out; first | omega | exact Nat.le_refl _⟩, ⟨by (with_reducible repeat (first | apply Kd.R_alloc | apply Kd.R_drewN | apply Kd.R_drew)); first | exact HO_5.out | exact Kd.R_mono HO_5.out (fun _ _ => trivial)⟩, ⟨by (with_reducible repeat (first | apply Kd.S_alloc | apply Kd.S_drewN | apply Kd.S_drew)); exact HO_6.out⟩, ⟨by repeat (first | (with_reducible first | exact HB.out | apply below_alloc | apply Zd | apply below_drew1) | exact HB.out)⟩⟩
      case rest =>
       clear HC13
       try clear c1
       try clear p2
       try clear c3
       try clear c6
       try clear c6b0
       try clear c6b1
       try clear c7
       try clear c14
       try clear c14b0
       try clear p2
       obtain ⟨kq, x37_12, rfl, HA, HJ12, HO_5, HO_6, HB⟩ := hcut
       cases kq with
       | zero => exact absurd HA.out (by simp [lcs_Match.j2])
       | succ kj12 =>
        have H := HA.out
        clear HA
        simp only [lcs_Match.j2] at H
        by_cases c15 : x37_12 = true
        ·subst c15
         have H1 : (if 0 ≤ x7_2 then (if x7_2 < (l0.length : Int) then (if 0 ≤ x8_2 then (if x8_2 < (l1.length : Int) then (if (rd l0 x7_2) = (rd l1 x8_2) then (if x7_2 < (x5_2.length : Int) then (lcs_Match.l0 kj12 l0 l1 (x5_2.set (x7_2 : Int).toNat x8_2) t149 (wrap64 (x7_2 + 1)) (wrap64 (x8_2 + 1))) else (none)) else (if 0 ≤ (wrap64 (x7_2 + 1)) then (if (wrap64 (x7_2 + 1)) < (t149.length : Int) then (if x8_2 < ((rd_L2 t149 (wrap64 (x7_2 + 1))).length : Int) then (if x7_2 < (t149.length : Int) then (if 0 ≤ (wrap64 (x8_2 + 1)) then (if (wrap64 (x8_2 + 1)) < ((rd_L2 t149 x7_2).length : Int) then (if (rd (rd_L2 t149 (wrap64 (x7_2 + 1))) x8_2) ≥ (rd (rd_L2 t149 x7_2) (wrap64 (x8_2 + 1))) then (lcs_Match.l0 kj12 l0 l1 x5_2 t149 (wrap64 (x7_2 + 1)) x8_2) else (lcs_Match.l0 kj12 l0 l1 x5_2 t149 x7_2 (wrap64 (x8_2 + 1)))) else (none)) else (none)) else (none)) else (none)) else (none)) else (none))) else (none)) else (none)) else (none)) else (none)) = some r := by rw [if_pos rfl] at H; exact H
         clear H
         have H := H1
         clear H1
         by_cases c16 : 0 ≤ x7_2
         ·rw [if_pos c16] at H
          have c16b0 : decide (0 ≤ x7_2) = true := decide_eq_true c16
          clear c16
          by_cases c17 : x7_2 < (l0.length : Int)
          ·rw [if_pos c17] at H
           have c17b0 : decide (x7_2 < (l0.length : Int)) = true := decide_eq_true c17
           clear c17
           by_cases c18 : 0 ≤ x8_2
           ·rw [if_pos c18] at H
            have c18b0 : decide (0 ≤ x8_2) = true := decide_eq_true c18
            clear c18
            by_cases c19 : x8_2 < (l1.length : Int)
            ·rw [if_pos c19] at H
             have c19b0 : decide (x8_2 < (l1.length : Int)) = true := decide_eq_true c19
             clear c19
             by_cases c20 : (rd l0 x7_2) = (rd l1 x8_2)
             ·rw [if_pos c20] at H
              have c20b0 : ((rd l0 x7_2) == (rd l1 x8_2)) = true := beq_iff_eq.mpr c20
              have c20b1 : ((rd l0 x7_2) != (rd l1 x8_2)) = false := bne_eq_false_iff_eq.mpr c20
              clear c20
              by_cases c21 : x7_2 < (x5_2.length : Int)
              ·rw [if_pos c21] at H
               have c21b0 : decide (x7_2 < (x5_2.length : Int)) = true := decide_eq_true c21
               clear c21
               obtain ⟨y154, hy154⟩ : ∃ y_ : List Int, y_ = (x5_2.set (x7_2 : Int).toNat x8_2) := ⟨_, rfl⟩
               replace H : (lcs_Match.l0 kj12 l0 l1 y154 t149 (wrap64 (x7_2 + 1)) (wrap64 (x8_2 + 1))) = some r := by first | (rw [hy154]; with_reducible exact H) | (have H2_ := (Option.bind_some _ _).symm.trans H; rw [hy154]; with_reducible exact H2_) | (have H2_ := (Option.bind_some _ _).symm.trans H; with_reducible exact H2_) | with_reducible exact H | (rw [hy154]; exact H) | exact H
               have Ny154 := Zm hy154
               clear hy154
               have H' := Zm H
               clear H
               have p152 : 0 ≤ (x7_2 : Int) := Zo (by first | (with_reducible assumption) | assumption)
               have q152 : x7_2 < (l0.length : Int) := Zo (by first | (with_reducible assumption) | assumption)
               obtain ⟨ad152, e152, hx152_0⟩ := Kd.at_int HR0.out x7_2 p152 q152
               cases e152
               replace hx152_0 := (HB.out.cell (World.block_lt_of_cell? w _ hx152_0)).trans hx152_0
               replace p152 := eq_true p152
               replace q152 := eq_true q152
               have p153 : 0 ≤ (x8_2 : Int) := Zo (by first | (with_reducible assumption) | assumption)
               have q153 : x8_2 < (l1.length : Int) := Zo (by first | (with_reducible assumption) | assumption)
               obtain ⟨ad153, e153, hx153_0⟩ := Kd.at_int HR1.out x8_2 p153 q153
               cases e153
               replace hx153_0 := (HB.out.cell (World.block_lt_of_cell? w _ hx153_0)).trans hx153_0
               replace p153 := eq_true p153
               replace q153 := eq_true q153
               have p22 : 0 ≤ (x7_2 : Int) := Zo (by first | (with_reducible assumption) | assumption)
               have q22 : (x7_2 : Int) < ((x5_2.length : Int) : Int) := Zo (by first | (with_reducible assumption) | assumption)
               obtain ⟨go22, co22, eo22, gb22, gl22, cl22, HG22⟩ := Kd.R_form HO_5.out (by omega)
               (first | cases eo22 | (injection eo22 with ea_ en_ ec_; (first | subst ea_ | (injection ea_ with ea_; subst ea_)); subst ec_; clear en_))
               have GB22 := Zm gb22
               have GG22 := Zm HG22
               clear gb22 gl22 HG22
               obtain ⟨hx22_0, hf22_0⟩ := Kd.R_celln 0 HO_5.out (x7_2 : Int) p22 q22
               replace p22 := eq_true p22
               replace q22 := eq_true q22
               have HP23 := Kd.R_putg HO_5.out (x7_2 : Int) x8_2
               go_wp2_with (first | ((with_reducible refine gate_store (t := 3) (p := 53) rfl ?_); (try (rw [drewN_self wc]; generalize hq_ : World.drewN wc _ = wc; have n0_ := Zm (Kd.R_at hq_ HO_5.out); have n1_ := Zm (Kd.S_at hq_ HO_6.out); have n2_ := Zm (below_at hq_ HB.out); clear hq_ HO_5 HO_6 HB; have HO_5 := n0_; have HO_6 := n1_; have HB := n2_; clear n0_ n1_ n2_; (try (have HP23 := Kd.R_putg HO_5.out (x7_2 : Int) x8_2)); (try (obtain ⟨hx22_0, hf22_0⟩ := Kd.R_celln 0 HO_5.out (x7_2 : Int) (of_eq_true p22) (of_eq_true q22))))); refine store_event (t := 3) (p := 53) (v := ?vo_w24) (w1 := (wc.setCell ⟨go22, (x7_2 : Int).toNat, none⟩ (.int .i64 x8_2))) ?hg ?ho ?hn ?hr ?_; (case ho => rfl); (case hg => rfl); (case hn => rfl); (case hr => first | (go_simp; done) | (go_simp; rfl)); intro w24 hw; have hg : wc.grownBy w24 (some go22) := (by rw [hw]; exact HP23.2); have hp_ : Kd.R (Kd.int .i64) 3 w24 w.heap.size (fun _ => True) (.slice (some ⟨go22, 0, none⟩) x5_2.length co22) y154 := (by rw [hw, Ny154.out]; exact HP23.1); clear HP23; have n0_ := Zm (hp_); have n1_ := Zm (Kd.S_over' (v := (.slice (some ⟨go22, 0, none⟩) x5_2.length co22)) (by (with_reducible repeat (first | apply Kd.S_alloc | apply Kd.S_drewN | apply Kd.S_drew)); exact HO_6.out) (Kd.R_typed HO_5.out) (by decide) hg); have n2_ := Zm ((by rw [hw]; exact below_set (HB.out) GB22.out : Below w.heap.size w w24)); clear HO_5; clear HO_6; clear HB; have HO_5 := n0_; have HO_6 := n1_; have HB := n2_; clear n0_ n1_ n2_; clear hg hw hp_))
               repeat (go_quiet (first | ((with_reducible refine gate_store (t := 3) (p := 53) rfl ?_); (try (rw [drewN_self wc]; generalize hq_ : World.drewN wc _ = wc; have n0_ := Zm (Kd.R_at hq_ HO_5.out); have n1_ := Zm (Kd.S_at hq_ HO_6.out); have n2_ := Zm (below_at hq_ HB.out); clear hq_ HO_5 HO_6 HB; have HO_5 := n0_; have HO_6 := n1_; have HB := n2_; clear n0_ n1_ n2_; (try (have HP23 := Kd.R_putg HO_5.out (x7_2 : Int) x8_2)); (try (obtain ⟨hx22_0, hf22_0⟩ := Kd.R_celln 0 HO_5.out (x7_2 : Int) (of_eq_true p22) (of_eq_true q22))))); refine store_event (t := 3) (p := 53) (v := ?vo_w24) (w1 := (wc.setCell ⟨go22, (x7_2 : Int).toNat, none⟩ (.int .i64 x8_2))) ?hg ?ho ?hn ?hr ?_; (case ho => rfl); (case hg => rfl); (case hn => rfl); (case hr => first | (go_simp; done) | (go_simp; rfl)); intro w24 hw; have hg : wc.grownBy w24 (some go22) := (by rw [hw]; exact HP23.2); have hp_ : Kd.R (Kd.int .i64) 3 w24 w.heap.size (fun _ => True) (.slice (some ⟨go22, 0, none⟩) x5_2.length co22) y154 := (by rw [hw, Ny154.out]; exact HP23.1); clear HP23; have n0_ := Zm (hp_); have n1_ := Zm (Kd.S_over' (v := (.slice (some ⟨go22, 0, none⟩) x5_2.length co22)) (by (with_reducible repeat (first | apply Kd.S_alloc | apply Kd.S_drewN | apply Kd.S_drew)); exact HO_6.out) (Kd.R_typed HO_5.out) (by decide) hg); have n2_ := Zm ((by rw [hw]; exact below_set (HB.out) GB22.out : Below w.heap.size w w24)); clear HO_5; clear HO_6; clear HB; have HO_5 := n0_; have HO_6 := n1_; have HB := n2_; clear n0_ n1_ n2_; clear hg hw hp_)); try go_wp2_with (first | ((with_reducible refine gate_store (t := 3) (p := 53) rfl ?_); (try (rw [drewN_self wc]; generalize hq_ : World.drewN wc _ = wc; have n0_ := Zm (Kd.R_at hq_ HO_5.out); have n1_ := Zm (Kd.S_at hq_ HO_6.out); have n2_ := Zm (below_at hq_ HB.out); clear hq_ HO_5 HO_6 HB; have HO_5 := n0_; have HO_6 := n1_; have HB := n2_; clear n0_ n1_ n2_; (try (have HP23 := Kd.R_putg HO_5.out (x7_2 : Int) x8_2)); (try (obtain ⟨hx22_0, hf22_0⟩ := Kd.R_celln 0 HO_5.out (x7_2 : Int) (of_eq_true p22) (of_eq_true q22))))); refine store_event (t := 3) (p := 53) (v := ?vo_w24) (w1 := (wc.setCell ⟨go22, (x7_2 : Int).toNat, none⟩ (.int .i64 x8_2))) ?hg ?ho ?hn ?hr ?_; (case ho => rfl); (case hg => rfl); (case hn => rfl); (case hr => first | (go_simp; done) | (go_simp; rfl)); intro w24 hw; have hg : wc.grownBy w24 (some go22) := (by rw [hw]; exact HP23.2); have hp_ : Kd.R (Kd.int .i64) 3 w24 w.heap.size (fun _ => True) (.slice (some ⟨go22, 0, none⟩) x5_2.length co22) y154 := (by rw [hw, Ny154.out]; exact HP23.1); clear HP23; have n0_ := Zm (hp_); have n1_ := Zm (Kd.S_over' (v := (.slice (some ⟨go22, 0, none⟩) x5_2.length co22)) (by (with_reducible repeat (first | apply Kd.S_alloc | apply Kd.S_drewN | apply Kd.S_drew)); exact HO_6.out) (Kd.R_typed HO_5.out) (by decide) hg); have n2_ := Zm ((by rw [hw]; exact below_set (HB.out) GB22.out : Below w.heap.size w w24)); clear HO_5; clear HO_6; clear HB; have HO_5 := n0_; have HO_6 := n1_; have HB := n2_; clear n0_ n1_ n2_; clear hg hw hp_)))
               go_roundg kj12
               case measure => have := HJ3.out; have := HK2.out; have := HJ12.out; omega
               case rel => exact ⟨(y154), (wrap64 (x7_2 + 1)), (wrap64 (x8_2 + 1)), (by first | rfl | (simp; done) | (simp [*]; done)), (by first | rfl | (simp; done) | (simp [*]; done)), H', ⟨by have := HJ3.out; have := HK2.out; have := HJ12.out; omega⟩, ⟨by (with_reducible repeat (first | apply Kd.R_alloc | apply Kd.R_drewN | apply Kd.R_drew)); first | exact HO_5.out | exact Kd.R_mono HO_5.out (fun _ _ => trivial)⟩, ⟨by (with_reducible repeat (first | apply Kd.S_alloc | apply Kd.S_drewN | apply Kd.S_drew)); exact HO_6.out⟩, ⟨by repeat (first | (with_reducible first | exact HB.out | apply below_alloc | apply Zd | apply below_drew1) | exact HB.out)⟩⟩
              ·rw [if_neg c21] at H
               exact absurd H (by simp)
             ·rw [if_neg c20] at H
              have c20b0 : ((rd l0 x7_2) == (rd l1 x8_2)) = false := beq_eq_false_iff_ne.mpr c20
              have c20b1 : ((rd l0 x7_2) != (rd l1 x8_2)) = true := bne_iff_ne.mpr c20
              obtain ⟨ji25, hji25⟩ : ∃ j_ : Int, (wrap64 (x7_2 + 1)) = j_ := ⟨_, rfl⟩
              replace H : (if 0 ≤ (ji25) then (if (ji25) < (t149.length : Int) then (if x8_2 < ((rd_L2 t149 (ji25)).length : Int) then (if x7_2 < (t149.length : Int) then (if 0 ≤ (wrap64 (x8_2 + 1)) then (if (wrap64 (x8_2 + 1)) < ((rd_L2 t149 x7_2).length : Int) then (if (rd (rd_L2 t149 (ji25)) x8_2) ≥ (rd (rd_L2 t149 x7_2) (wrap64 (x8_2 + 1))) then (lcs_Match.l0 kj12 l0 l1 x5_2 t149 ji25 x8_2) else (lcs_Match.l0 kj12 l0 l1 x5_2 t149 x7_2 (wrap64 (x8_2 + 1)))) else (none)) else (none)) else (none)) else (none)) else (none)) else (none)) = some r := by first | (rw [hji25] at H; exact H) | (simp only [hji25] at H ⊢; exact H)
              have hji25w : (IntKind.i64.wrap (x7_2 + 1)) = ji25 := (i64_w _).trans hji25
              by_cases c26 : 0 ≤ (ji25)
              ·rw [if_pos c26] at H
               have c26b0 : decide (0 ≤ (ji25)) = true := decide_eq_true c26
               clear c26
               by_cases c27 : (ji25) < (t149.length : Int)
               ·rw [if_pos c27] at H
                have c27b0 : decide ((ji25) < (t149.length : Int)) = true := decide_eq_true c27
                clear c27
                by_cases c28 : x8_2 < ((rd_L2 t149 (ji25)).length : Int)
                ·rw [if_pos c28] at H
                 have c28b0 : decide (x8_2 < ((rd_L2 t149 (ji25)).length : Int)) = true := decide_eq_true c28
                 clear c28
                 by_cases c29 : x7_2 < (t149.length : Int)
                 ·rw [if_pos c29] at H
                  have c29b0 : decide (x7_2 < (t149.length : Int)) = true := decide_eq_true c29
                  clear c29
                  obtain ⟨ji30, hji30⟩ : ∃ j_ : Int, (wrap64 (x8_2 + 1)) = j_ := ⟨_, rfl⟩
                  replace H : (if 0 ≤ (ji30) then (if (ji30) < ((rd_L2 t149 x7_2).length : Int) then (if (rd (rd_L2 t149 (ji25)) x8_2) ≥ (rd (rd_L2 t149 x7_2) (ji30)) then (lcs_Match.l0 kj12 l0 l1 x5_2 t149 ji25 x8_2) else (lcs_Match.l0 kj12 l0 l1 x5_2 t149 x7_2 ji30)) else (none)) else (none)) = some r := by first | (rw [hji30] at H; exact H) | (simp only [hji30] at H ⊢; exact H)
                  have hji30w : (IntKind.i64.wrap (x8_2 + 1)) = ji30 := (i64_w _).trans hji30
                  by_cases c31 : 0 ≤ (ji30)
                  ·rw [if_pos c31] at H
                   have c31b0 : decide (0 ≤ (ji30)) = true := decide_eq_true c31
                   clear c31
                   by_cases c32 : (ji30) < ((rd_L2 t149 x7_2).length : Int)
                   ·rw [if_pos c32] at H
                    have c32b0 : decide ((ji30) < ((rd_L2 t149 x7_2).length : Int)) = true := decide_eq_true c32
                    clear c32
                    by_cases c33 : (rd (rd_L2 t149 (ji25)) x8_2) ≥ (rd (rd_L2 t149 x7_2) (ji30))
                    ·rw [if_pos c33] at H
                     have c33b0 : decide ((rd (rd_L2 t149 x7_2) (ji30)) ≤ (rd (rd_L2 t149 (ji25)) x8_2)) = true := decide_eq_true c33
                     clear c33
                     have H' := Zm H
                     clear H
                     have p152 : 0 ≤ (x7_2 : Int) := Zo (by first | (with_reducible assumption) | assumption)
                     have q152 : x7_2 < (l0.length : Int) := Zo (by first | (with_reducible assumption) | assumption)
                     obtain ⟨ad152, e152, hx152_0⟩ := Kd.at_int HR0.out x7_2 p152 q152
                     cases e152
                     replace hx152_0 := (HB.out.cell (World.block_lt_of_cell? w _ hx152_0)).trans hx152_0
                     replace p152 := eq_true p152
                     replace q152 := eq_true q152
                     have p153 : 0 ≤ (x8_2 : Int) := Zo (by first | (with_reducible assumption) | assumption)
                     have q153 : x8_2 < (l1.length : Int) := Zo (by first | (with_reducible assumption) | assumption)
                     obtain ⟨ad153, e153, hx153_0⟩ := Kd.at_int HR1.out x8_2 p153 q153
                     cases e153
                     replace hx153_0 := (HB.out.cell (World.block_lt_of_cell? w _ hx153_0)).trans hx153_0
                     replace p153 := eq_true p153
                     replace q153 := eq_true q153
                     obtain ⟨Ao34, co34, eo34⟩ := Kd.S_slice HO_6.out
                     subst eo34
                     have p155 : 0 ≤ ((ji25) : Int) := Zo (by first | (with_reducible assumption) | assumption)
                     have q155 : (ji25) < (t149.length : Int) := Zo (by first | (with_reducible assumption) | assumption)
                     obtain ⟨ad155, A155_0, c155_0, e155, hx155_0, hl155_0, hi155_0⟩ := at_L2 (Kd.S_reads' HO_6.out).2.2 (ji25) p155 q155
                     cases e155
                     obtain ⟨ce155, hce155, hMe155, hcc155⟩ := Kd.S_get HO_6.out [] (ji25) p155 (by first | exact q155 | exact Zo (by first | (with_reducible assumption) | assumption) | (have e_ := (Kd.S_reads' HO_6.out).1; omega))
                     obtain ⟨ve155_0, rfl, ge155_0⟩ := hMe155
                     have hv155_0 := hcc155 0 _ rfl
                     rw [Nat.add_zero, show ((Kd.slice 21 (Kd.int .i32))).sz = 1 from rfl, Nat.mul_one] at hv155_0
                     replace hv155_0 := Option.some.inj (hv155_0.symm.trans hx155_0)
                     rw [hv155_0] at ge155_0
                     have HL155_0 := Zm (show Kd.R (Kd.int .i32) 21 _ _ _ _ (rd_L2 t149 (ji25)) from ge155_0)
                     clear hv155_0 ge155_0
                     clear hcc155 hce155
                     have HR155_0 := Zm hi155_0
                     have HC155_0 := Zm hl155_0
                     clear hi155_0 hl155_0
                     replace p155 := eq_true p155
                     replace q155 := eq_true q155
                     have p156 : 0 ≤ (x8_2 : Int) := Zo (by first | (with_reducible assumption) | assumption)
                     have q156 : x8_2 < ((rd_L2 t149 (ji25)).length : Int) := Zo (by first | (with_reducible assumption) | assumption)
                     obtain ⟨ad156, e156, hx156_0⟩ := Kd.at_int (by repeat (first | (with_reducible exact HR155_0.out) | (with_reducible refine Kd.C_alloc ?_ _) | (with_reducible refine Kd.C_drewN ?_ _) | (with_reducible refine Kd.C_drew ?_) | exact HR155_0.out)) x8_2 p156 q156
                     cases e156
                     replace p156 := eq_true p156
                     replace q156 := eq_true q156
                     have p157 : 0 ≤ (x7_2 : Int) := Zo (by first | (with_reducible assumption) | assumption)
                     have q157 : x7_2 < (t149.length : Int) := Zo (by first | (with_reducible assumption) | assumption)
                     obtain ⟨ad157, A157_0, c157_0, e157, hx157_0, hl157_0, hi157_0⟩ := at_L2 (Kd.S_reads' HO_6.out).2.2 x7_2 p157 q157
                     obtain rfl : ad155 = ad157 := (by injection e157)
                     obtain ⟨ce157, hce157, hMe157, hcc157⟩ := Kd.S_get HO_6.out [] x7_2 p157 (by first | exact q157 | exact Zo (by first | (with_reducible assumption) | assumption) | (have e_ := (Kd.S_reads' HO_6.out).1; omega))
                     obtain ⟨ve157_0, rfl, ge157_0⟩ := hMe157
                     have hv157_0 := hcc157 0 _ rfl
                     rw [Nat.add_zero, show ((Kd.slice 21 (Kd.int .i32))).sz = 1 from rfl, Nat.mul_one] at hv157_0
                     replace hv157_0 := Option.some.inj (hv157_0.symm.trans hx157_0)
                     rw [hv157_0] at ge157_0
                     have HL157_0 := Zm (show Kd.R (Kd.int .i32) 21 _ _ _ _ (rd_L2 t149 x7_2) from ge157_0)
                     clear hv157_0 ge157_0
                     clear hcc157 hce157
                     have HR157_0 := Zm hi157_0
                     have HC157_0 := Zm hl157_0
                     clear hi157_0 hl157_0
                     replace p157 := eq_true p157
                     replace q157 := eq_true q157
                     have p158 : 0 ≤ ((ji30) : Int) := Zo (by first | (with_reducible assumption) | assumption)
                     have q158 : (ji30) < ((rd_L2 t149 x7_2).length : Int) := Zo (by first | (with_reducible assumption) | assumption)
                     obtain ⟨ad158, e158, hx158_0⟩ := Kd.at_int (by repeat (first | (with_reducible exact HR157_0.out) | (with_reducible refine Kd.C_alloc ?_ _) | (with_reducible refine Kd.C_drewN ?_ _) | (with_reducible refine Kd.C_drew ?_) | exact HR157_0.out)) (ji30) p158 q158
                     cases e158
                     replace p158 := eq_true p158
                     replace q158 := eq_true q158
                     go_wp2
                     repeat (go_quiet (fail); try go_wp2)
                     go_roundg kj12
                     case measure => have := HJ3.out; have := HK2.out; have := HJ12.out; omega
                     case rel => exact ⟨(x5_2), (ji25), (x8_2), (by first | rfl | (simp; done) | (simp only [← hji25] <;> (first | rfl | simp)) | (simp [*]; done)), (by first | rfl | (simp; done) | (simp [*]; done)), H', ⟨by have := HJ3.out; have := HK2.out; have := HJ12.out; omega⟩, ⟨by (with_reducible repeat (first | apply Kd.R_alloc | apply Kd.R_drewN | apply Kd.R_drew)); first | exact HO_5.out | exact Kd.R_mono HO_5.out (fun _ _ => trivial)⟩, ⟨by (with_reducible repeat (first | apply Kd.S_alloc | apply Kd.S_drewN | apply Kd.S_drew)); exact HO_6.out⟩, ⟨by repeat (first | (with_reducible first | exact HB.out | apply below_alloc | apply Zd | apply below_drew1) | exact HB.out)⟩⟩
                    ·rw [if_neg c33] at H
                     have c33b0 : decide ((rd (rd_L2 t149 x7_2) (ji30)) ≤ (rd (rd_L2 t149 (ji25)) x8_2)) = false := decide_eq_false c33
                     clear c33
                     have H' := Zm H
                     clear H
                     have p152 : 0 ≤ (x7_2 : Int) := Zo (by first | (with_reducible assumption) | assumption)
                     have q152 : x7_2 < (l0.length : Int) := Zo (by first | (with_reducible assumption) | assumption)
                     obtain ⟨ad152, e152, hx152_0⟩ := Kd.at_int HR0.out x7_2 p152 q152
                     cases e152
                     replace hx152_0 := (HB.out.cell (World.block_lt_of_cell? w _ hx152_0)).trans hx152_0
                     replace p152 := eq_true p152
                     replace q152 := eq_true q152
                     have p153 : 0 ≤ (x8_2 : Int) := Zo (by first | (with_reducible assumption) | assumption)
                     have q153 : x8_2 < (l1.length : Int) := Zo (by first | (with_reducible assumption) | assumption)
                     obtain ⟨ad153, e153, hx153_0⟩ := Kd.at_int HR1.out x8_2 p153 q153
                     cases e153
                     replace hx153_0 := (HB.out.cell (World.block_lt_of_cell? w _ hx153_0)).trans hx153_0
                     replace p153 := eq_true p153
                     replace q153 := eq_true q153
                     obtain ⟨Ao35, co35, eo35⟩ := Kd.S_slice HO_6.out
                     subst eo35
                     have p155 : 0 ≤ ((ji25) : Int) := Zo (by first | (with_reducible assumption) | assumption)
                     have q155 : (ji25) < (t149.length : Int) := Zo (by first | (with_reducible assumption) | assumption)
                     obtain ⟨ad155, A155_0, c155_0, e155, hx155_0, hl155_0, hi155_0⟩ := at_L2 (Kd.S_reads' HO_6.out).2.2 (ji25) p155 q155
                     cases e155
                     obtain ⟨ce155, hce155, hMe155, hcc155⟩ := Kd.S_get HO_6.out [] (ji25) p155 (by first | exact q155 | exact Zo (by first | (with_reducible assumption) | assumption) | (have e_ := (Kd.S_reads' HO_6.out).1; omega))
                     obtain ⟨ve155_0, rfl, ge155_0⟩ := hMe155
                     have hv155_0 := hcc155 0 _ rfl
                     rw [Nat.add_zero, show ((Kd.slice 21 (Kd.int .i32))).sz = 1 from rfl, Nat.mul_one] at hv155_0
                     replace hv155_0 := Option.some.inj (hv155_0.symm.trans hx155_0)
                     rw [hv155_0] at ge155_0
                     have HL155_0 := Zm (show Kd.R (Kd.int .i32) 21 _ _ _ _ (rd_L2 t149 (ji25)) from ge155_0)
                     clear hv155_0 ge155_0
                     clear hcc155 hce155
                     have HR155_0 := Zm hi155_0
                     have HC155_0 := Zm hl155_0
                     clear hi155_0 hl155_0
                     replace p155 := eq_true p155
                     replace q155 := eq_true q155
                     have p156 : 0 ≤ (x8_2 : Int) := Zo (by first | (with_reducible assumption) | assumption)
                     have q156 : x8_2 < ((rd_L2 t149 (ji25)).length : Int) := Zo (by first | (with_reducible assumption) | assumption)
                     obtain ⟨ad156, e156, hx156_0⟩ := Kd.at_int (by repeat (first | (with_reducible exact HR155_0.out) | (with_reducible refine Kd.C_alloc ?_ _) | (with_reducible refine Kd.C_drewN ?_ _) | (with_reducible refine Kd.C_drew ?_) | exact HR155_0.out)) x8_2 p156 q156
                     cases e156
                     replace p156 := eq_true p156
                     replace q156 := eq_true q156
                     have p157 : 0 ≤ (x7_2 : Int) := Zo (by first | (with_reducible assumption) | assumption)
                     have q157 : x7_2 < (t149.length : Int) := Zo (by first | (with_reducible assumption) | assumption)
                     obtain ⟨ad157, A157_0, c157_0, e157, hx157_0, hl157_0, hi157_0⟩ := at_L2 (Kd.S_reads' HO_6.out).2.2 x7_2 p157 q157
                     obtain rfl : ad155 = ad157 := (by injection e157)
                     obtain ⟨ce157, hce157, hMe157, hcc157⟩ := Kd.S_get HO_6.out [] x7_2 p157 (by first | exact q157 | exact Zo (by first | (with_reducible assumption) | assumption) | (have e_ := (Kd.S_reads' HO_6.out).1; omega))
                     obtain ⟨ve157_0, rfl, ge157_0⟩ := hMe157
                     have hv157_0 := hcc157 0 _ rfl
                     rw [Nat.add_zero, show ((Kd.slice 21 (Kd.int .i32))).sz = 1 from rfl, Nat.mul_one] at hv157_0
                     replace hv157_0 := Option.some.inj (hv157_0.symm.trans hx157_0)
                     rw [hv157_0] at ge157_0
                     have HL157_0 := Zm (show Kd.R (Kd.int .i32) 21 _ _ _ _ (rd_L2 t149 x7_2) from ge157_0)
                     clear hv157_0 ge157_0
                     clear hcc157 hce157
                     have HR157_0 := Zm hi157_0
                     have HC157_0 := Zm hl157_0
                     clear hi157_0 hl157_0
                     replace p157 := eq_true p157
                     replace q157 := eq_true q157
                     have p158 : 0 ≤ ((ji30) : Int) := Zo (by first | (with_reducible assumption) | assumption)
                     have q158 : (ji30) < ((rd_L2 t149 x7_2).length : Int) := Zo (by first | (with_reducible assumption) | assumption)
                     obtain ⟨ad158, e158, hx158_0⟩ := Kd.at_int (by repeat (first | (with_reducible exact HR157_0.out) | (with_reducible refine Kd.C_alloc ?_ _) | (with_reducible refine Kd.C_drewN ?_ _) | (with_reducible refine Kd.C_drew ?_) | exact HR157_0.out)) (ji30) p158 q158
                     cases e158
                     replace p158 := eq_true p158
                     replace q158 := eq_true q158
                     go_wp2
                     repeat (go_quiet (fail); try go_wp2)
                     go_roundg kj12
                     case measure => have := HJ3.out; have := HK2.out; have := HJ12.out; omega
                     case rel => exact ⟨(x5_2), (x7_2), (ji30), (by first | rfl | (simp; done) | (simp [*]; done)), (by first | rfl | (simp; done) | (simp only [← hji30] <;> (first | rfl | simp)) | (simp [*]; done)), H', ⟨by have := HJ3.out; have := HK2.out; have := HJ12.out; omega⟩, ⟨by (with_reducible repeat (first | apply Kd.R_alloc | apply Kd.R_drewN | apply Kd.R_drew)); first | exact HO_5.out | exact Kd.R_mono HO_5.out (fun _ _ => trivial)⟩, ⟨by (with_reducible repeat (first | apply Kd.S_alloc | apply Kd.S_drewN | apply Kd.S_drew)); exact HO_6.out⟩, ⟨by repeat (first | (with_reducible first | exact HB.out | apply below_alloc | apply Zd | apply below_drew1) | exact HB.out)⟩⟩
                   ·rw [if_neg c32] at H
                    exact absurd H (by simp)
                  ·rw [if_neg c31] at H
                   exact absurd H (by simp)
                 ·rw [if_neg c29] at H
                  exact absurd H (by simp)
                ·rw [if_neg c28] at H
                 exact absurd H (by simp)
               ·rw [if_neg c27] at H
                exact absurd H (by simp)
              ·rw [if_neg c26] at H
               exact absurd H (by simp)
            ·rw [if_neg c19] at H
             exact absurd H (by simp)
           ·rw [if_neg c18] at H
            exact absurd H (by simp)
          ·rw [if_neg c17] at H
           exact absurd H (by simp)
         ·rw [if_neg c16] at H
          exact absurd H (by simp)
        ·replace c15 := Bool.eq_false_iff.mpr c15
         subst c15
         have H1 : (some x5_2) = some r := by rw [if_neg (show ¬ (false = true) by decide)] at H; exact H
         clear H
         have H := H1
         clear H1
         obtain rfl := Option.some.inj H
         go_wp2
         repeat (go_quiet (fail); try go_wp2)
         go_ret
         exact ⟨_, by first | rfl | (simp [errW_none, errW_some] <;> rfl) | (simp [*, errW_none, errW_some] <;> rfl), by (with_reducible repeat (first | apply Kd.R_alloc | apply Kd.R_drewN | apply Kd.R_drew)); exact HO_5.out, by repeat (first | (with_reducible first | exact HB.out | apply below_alloc | apply Zd | apply below_drew1) | exact HB.out)⟩
end Go.Proofs.Yteafndooaokagaa.PDiff
