/- Laid by a program of this session out of the seat's translation. -/
import Derived.Test.YteafndooaokagaaPDiffx0
import Derived.Test.YteafndooaokagaaPDiffx8
namespace Go.Proofs.Yteafndooaokagaa.PDiff
open Go.RowKit Go.Proofs.YteafndooaokagaaW.PrintWords Go.Proofs.YteafndooaokagaaW.PrintLast Go.Proofs.YteafndooaokagaaW.PrintMore
attribute [local go_sem] max2_int min2_int max_two min_two max_three min_three max_four min_four   -- for this text's walks alone
set_option linter.unusedVariables false
set_option linter.unusedSimpArgs false
/-! ### r07_kind: function 27 -/
def r07_kind.j0 : Nat → List Int → List Int → Bool → Bool → Bool → Option (Int)
 | 0, _, _, _, _, _ => none
 | k + 1, x1, x2, x7, x8, x23 => if x23 = true then (some 0) else (if x7 = true then (if x8 = true then ((r05_Same.f k x1 x2).bind fun t274 => (if t274 = true then (some 3) else (some 4))) else (some 1)) else (some 2))
def r07_kind.f (k : Nat) (l0 : List Int) (l1 : List Int) (l2 : List Int) : Option (Int) := (r05_Same.f k l0 l1).bind fun t272 => ((r05_Same.f k l0 l2).bind fun t273 => (if t272 = true then (r07_kind.j0 k l1 l2 (!t272) (!t273) t273) else (r07_kind.j0 k l1 l2 (!t272) (!t273) false)))
theorem r07_kind.mono_l : ∀ k, (∀ y0 y1 y2 y3 y4, LeO (r07_kind.j0 k y0 y1 y2 y3 y4) (r07_kind.j0 (k + 1) y0 y1 y2 y3 y4))
 | 0 => fun _ _ _ _ _ r h => by simp [r07_kind.j0] at h
 | k + 1 => by
  have ih0 := r07_kind.mono_l k
  ·intro y0 y1 y2 y3 y4
   unfold r07_kind.j0
   repeat' first
   | (with_reducible exact ih0 _ _ _ _ _)
   | (with_reducible exact r05_Same.mono _ _ _)
   | (with_reducible exact LeO.refl _)
   | (with_reducible exact LeO.none _)
   | (with_reducible refine LeO.ite ?_ ?_)
   | (with_reducible refine LeO.bind ?_ (fun _ => ?_))
   | exact ih0 _ _ _ _ _
   | exact r05_Same.mono _ _ _
   | exact LeO.none _
   | refine LeO.ite ?_ ?_
   | refine LeO.bind ?_ (fun _ => ?_)
theorem r07_kind.mono : ∀ a0 a1 a2 k, LeO (r07_kind.f k a0 a1 a2) (r07_kind.f (k + 1) a0 a1 a2) := by
 intro a0 a1 a2 k
 have ih0 := r07_kind.mono_l k
 unfold r07_kind.f
 repeat' first
   | (with_reducible exact ih0 _ _ _ _ _)
   | (with_reducible exact r05_Same.mono _ _ _)
   | (with_reducible exact LeO.refl _)
   | (with_reducible exact LeO.none _)
   | (with_reducible refine LeO.ite ?_ ?_)
   | (with_reducible refine LeO.bind ?_ (fun _ => ?_))
   | exact ih0 _ _ _ _ _
   | exact r05_Same.mono _ _ _
   | exact LeO.none _
   | refine LeO.ite ?_ ?_
   | refine LeO.bind ?_ (fun _ => ?_)
set_option maxHeartbeats 8000000 in
set_option maxRecDepth 100000 in
theorem r07_kind.calls (k : Nat) (A0 : Option Addr) (c0 : Nat) (l0 : List Int) (A1 : Option Addr) (c1 : Nat) (l1 : List Int) (A2 : Option Addr) (c2 : Nat) (l2 : List Int) (r : Int) (w : World) (hr0 : Kd.C (Kd.int .i64) w A0 l0.length l0) (hc0 : l0.length ≤ c0) (hr1 : Kd.C (Kd.int .i64) w A1 l1.length l1) (hc1 : l1.length ≤ c1) (hr2 : Kd.C (Kd.int .i64) w A2 l2.length l2) (hc2 : l2.length ≤ c2) (h : r07_kind.f k l0 l1 l2 = some r) :
  Calls Try.prog 27 #[.slice A0 l0.length c0, .slice A1 l1.length c1, .slice A2 l2.length c2] w fun e w' => e = .returned (.int .i64 r) ∧ Drawn0 w w' := by
 have HR0 := Zm hr0
 have HC0 := Zm hc0
 clear hr0 hc0
 have HR1 := Zm hr1
 have HC1 := Zm hc1
 clear hr1 hc1
 have HR2 := Zm hr2
 have HC2 := Zm hc2
 clear hr2 hc2
 have H : ((r05_Same.f k l0 l1).bind fun t272 => ((r05_Same.f k l0 l2).bind fun t273 => (if t272 = true then (r07_kind.j0 k l1 l2 (!t272) (!t273) t273) else (r07_kind.j0 k l1 l2 (!t272) (!t273) false)))) = some r := h
 clear h
 replace H := Option.bind_eq_some_iff.mp H
 obtain ⟨t272, A40, H⟩ := H
 replace H : ((r05_Same.f k l0 l2).bind fun t273 => (if t272 = true then (r07_kind.j0 k l1 l2 (!t272) (!t273) t273) else (r07_kind.j0 k l1 l2 (!t272) (!t273) false))) = some r := H
 have A4 := Zm A40
 clear A40
 replace H := Option.bind_eq_some_iff.mp H
 obtain ⟨t273, A50, H⟩ := H
 replace H : (if t272 = true then (r07_kind.j0 k l1 l2 (!t272) (!t273) t273) else (r07_kind.j0 k l1 l2 (!t272) (!t273) false)) = some r := H
 have A5 := Zm A50
 clear A50
 have HC6 := Zm H
 clear H
 go_enter Try.func27, Try.ntmps27
 go_upto_region 3 with (first | ((with_reducible refine gate_callee (f := 17) rfl ?_); refine goesL_ (some 12) rfl rfl Try.func17 (by kernel_rfl) rfl #[.slice A0 l0.length c0, .slice A1 l1.length c1] rfl (by (try simp only [List.map_toArray, List.map_cons, List.map_nil]); first | done | rfl | (simp only [List.length_drop, List.length_take]; rfl)) ?_; (with_reducible refine (r05_Same.calls k _ _ l0 _ _ l1 t272 _ ?side1 ?side2 ?side3 ?side4 A4.out).mono ?_); (case side1 => repeat (first | exact HR0.out | (with_reducible refine Kd.C_alloc ?_ _) | (with_reducible refine Kd.C_drewN ?_ _) | (with_reducible refine Kd.C_drew ?_))); (case side2 => exact HC0.out); (case side3 => repeat (first | exact HR1.out | (with_reducible refine Kd.C_alloc ?_ _) | (with_reducible refine Kd.C_drewN ?_ _) | (with_reducible refine Kd.C_drew ?_))); (case side4 => exact HC1.out); rintro e w' ⟨rfl, ⟨nd, rfl⟩⟩; refine ⟨_, rfl, ?_⟩) | ((with_reducible refine gate_callee (f := 17) rfl ?_); refine goesL_ (some 16) rfl rfl Try.func17 (by kernel_rfl) rfl #[.slice A0 l0.length c0, .slice A2 l2.length c2] rfl (by (try simp only [List.map_toArray, List.map_cons, List.map_nil]); first | done | rfl | (simp only [List.length_drop, List.length_take]; rfl)) ?_; (with_reducible refine (r05_Same.calls k _ _ l0 _ _ l2 t273 _ ?side1 ?side2 ?side3 ?side4 A5.out).mono ?_); (case side1 => repeat (first | exact HR0.out | (with_reducible refine Kd.C_alloc ?_ _) | (with_reducible refine Kd.C_drewN ?_ _) | (with_reducible refine Kd.C_drew ?_))); (case side2 => exact HC0.out); (case side3 => repeat (first | exact HR2.out | (with_reducible refine Kd.C_alloc ?_ _) | (with_reducible refine Kd.C_drewN ?_ _) | (with_reducible refine Kd.C_drew ?_))); (case side4 => exact HC2.out); rintro e w' ⟨rfl, ⟨nd, rfl⟩⟩; refine ⟨_, rfl, ?_⟩))
 (try simp only [Act.put, List.setIfInBounds_toArray, List.set_cons_zero, List.set_cons_succ])
 go_cut [23] (fun v23 wc => ∃ (kq : Nat) (x23_5 : Bool), v23 = .bool x23_5 ∧ Aside0 (r07_kind.j0 kq l1 l2 (!t272) (!t273) x23_5 = some r) ∧ Aside0 (kq ≤ k) ∧ Drawn0 w wc)
 case first =>
  have H := HC6.out
  clear HC6
  by_cases c7 : t272 = true
  ·subst c7
   have H1 : (r07_kind.j0 k l1 l2 (!true) (!t273) t273) = some r := by rw [if_pos rfl] at H; exact H
   clear H
   have H := H1
   clear H1
   have H' := Zm H
   clear H
   go_wp2
   go_meet
   case rel => exact ⟨_, (t273), (by first | rfl | (simp; done) | (simp [*]; done)), H', ⟨by first | omega | exact Nat.le_refl _⟩, by repeat (first | exact Drawn0.refl _ | apply Drawn0.step)⟩
  ·replace c7 := Bool.eq_false_iff.mpr c7
   subst c7
   have H1 : (r07_kind.j0 k l1 l2 (!false) (!t273) false) = some r := by rw [if_neg (show ¬ (false = true) by decide)] at H; exact H
   clear H
   have H := H1
   clear H1
   have H' := Zm H
   clear H
   go_wp2
   go_meet
   case rel => exact ⟨_, (false), (by first | rfl | (simp; done) | (simp [*]; done)), H', ⟨by first | omega | exact Nat.le_refl _⟩, by repeat (first | exact Drawn0.refl _ | apply Drawn0.step)⟩
 case rest =>
  clear HC6
  try clear c1
  try clear c2
  try clear p2
  try clear c7
  obtain ⟨kq, x23_5, rfl, HA, HJ5, ⟨mc5, rfl⟩⟩ := hcut
  cases kq with
  | zero => exact absurd HA.out (by simp [r07_kind.j0])
  | succ kj5 =>
   have H := HA.out
   clear HA
   simp only [r07_kind.j0] at H
   by_cases c8 : x23_5 = true
   ·subst c8
    have H1 : (some 0) = some r := by rw [if_pos rfl] at H; exact H
    clear H
    have H := H1
    clear H1
    obtain rfl := Option.some.inj H
    go_wp2
    go_ret
    exact ⟨by first | rfl | (simp; done) | (simp [*]; done), by repeat (first | exact Drawn0.refl _ | apply Drawn0.step)⟩
   ·replace c8 := Bool.eq_false_iff.mpr c8
    subst c8
    have H1 : (if (!t272) = true then (if (!t273) = true then ((r05_Same.f kj5 l1 l2).bind fun t274 => (if t274 = true then (some 3) else (some 4))) else (some 1)) else (some 2)) = some r := by rw [if_neg (show ¬ (false = true) by decide)] at H; exact H
    clear H
    have H := H1
    clear H1
    by_cases c9 : (!t272) = true
    ·rw [if_pos c9] at H
     have c9b0 : (!t272) = true := c9
     obtain rfl : t272 = false := by simpa using c9b0
     clear c9
     by_cases c10 : (!t273) = true
     ·rw [if_pos c10] at H
      have c10b0 : (!t273) = true := c10
      obtain rfl : t273 = false := by simpa using c10b0
      clear c10
      replace H := Option.bind_eq_some_iff.mp H
      obtain ⟨t274, A110, H⟩ := H
      replace H : (if t274 = true then (some 3) else (some 4)) = some r := H
      have A11 := Zm A110
      clear A110
      by_cases c12 : t274 = true
      ·subst c12
       have H1 : (some 3) = some r := by rw [if_pos rfl] at H; exact H
       clear H
       have H := H1
       clear H1
       obtain rfl := Option.some.inj H
       go_wp2_with (first | ((with_reducible refine gate_callee (f := 17) rfl ?_); refine goesL_ (some 30) rfl rfl Try.func17 (by kernel_rfl) rfl #[.slice A1 l1.length c1, .slice A2 l2.length c2] rfl (by (try simp only [List.map_toArray, List.map_cons, List.map_nil]); first | done | rfl | (simp only [List.length_drop, List.length_take]; rfl)) ?_; (with_reducible refine (r05_Same.calls kj5 _ _ l1 _ _ l2 true _ ?side1 ?side2 ?side3 ?side4 A11.out).mono ?_); (case side1 => repeat (first | exact HR1.out | (with_reducible refine Kd.C_alloc ?_ _) | (with_reducible refine Kd.C_drewN ?_ _) | (with_reducible refine Kd.C_drew ?_))); (case side2 => exact HC1.out); (case side3 => repeat (first | exact HR2.out | (with_reducible refine Kd.C_alloc ?_ _) | (with_reducible refine Kd.C_drewN ?_ _) | (with_reducible refine Kd.C_drew ?_))); (case side4 => exact HC2.out); rintro e w' ⟨rfl, ⟨nd, rfl⟩⟩; refine ⟨_, rfl, ?_⟩))
       go_ret
       exact ⟨by first | rfl | (simp; done) | (simp [*]; done), by repeat (first | exact Drawn0.refl _ | apply Drawn0.step)⟩
      ·replace c12 := Bool.eq_false_iff.mpr c12
       subst c12
       have H1 : (some 4) = some r := by rw [if_neg (show ¬ (false = true) by decide)] at H; exact H
       clear H
       have H := H1
       clear H1
       obtain rfl := Option.some.inj H
       go_wp2_with (first | ((with_reducible refine gate_callee (f := 17) rfl ?_); refine goesL_ (some 30) rfl rfl Try.func17 (by kernel_rfl) rfl #[.slice A1 l1.length c1, .slice A2 l2.length c2] rfl (by (try simp only [List.map_toArray, List.map_cons, List.map_nil]); first | done | rfl | (simp only [List.length_drop, List.length_take]; rfl)) ?_; (with_reducible refine (r05_Same.calls kj5 _ _ l1 _ _ l2 false _ ?side1 ?side2 ?side3 ?side4 A11.out).mono ?_); (case side1 => repeat (first | exact HR1.out | (with_reducible refine Kd.C_alloc ?_ _) | (with_reducible refine Kd.C_drewN ?_ _) | (with_reducible refine Kd.C_drew ?_))); (case side2 => exact HC1.out); (case side3 => repeat (first | exact HR2.out | (with_reducible refine Kd.C_alloc ?_ _) | (with_reducible refine Kd.C_drewN ?_ _) | (with_reducible refine Kd.C_drew ?_))); (case side4 => exact HC2.out); rintro e w' ⟨rfl, ⟨nd, rfl⟩⟩; refine ⟨_, rfl, ?_⟩))
       go_ret
       exact ⟨by first | rfl | (simp; done) | (simp [*]; done), by repeat (first | exact Drawn0.refl _ | apply Drawn0.step)⟩
     ·rw [if_neg c10] at H
      have c10b0 : (!t273) = false := by simpa using c10
      obtain rfl : t273 = true := by simpa using c10b0
      clear c10
      obtain rfl := Option.some.inj H
      go_wp2
      go_ret
      exact ⟨by first | rfl | (simp; done) | (simp [*]; done), by repeat (first | exact Drawn0.refl _ | apply Drawn0.step)⟩
    ·rw [if_neg c9] at H
     have c9b0 : (!t272) = false := by simpa using c9
     obtain rfl : t272 = true := by simpa using c9b0
     clear c9
     obtain rfl := Option.some.inj H
     go_wp2
     go_ret
     exact ⟨by first | rfl | (simp; done) | (simp [*]; done), by repeat (first | exact Drawn0.refl _ | apply Drawn0.step)⟩
end Go.Proofs.Yteafndooaokagaa.PDiff
