/- Laid by a program of this session out of the seat's translation. -/
import Derived.Test.YtphghffdaceaoaaPHunkx0
import Derived.Test.YtphghffdaceaoaaPHunkx5
import Derived.Test.YtphghffdaceaoaaPHunkx6
import Derived.Test.YtphghffdaceaoaaPHunkx8
import Derived.Test.YtphghffdaceaoaaPHunkx14
namespace Go.Proofs.Ytphghffdaceaoaa.PHunk
open Go.RowKit Go.Proofs.YtphghffdaceaoaaW.PrintWords Go.Proofs.YtphghffdaceaoaaW.PrintLast Go.Proofs.YtphghffdaceaoaaW.PrintMore
attribute [local go_sem] max2_int min2_int max_two min_two max_three min_three max_four min_four   -- for this text's walks alone
set_option linter.unusedVariables false
set_option linter.unusedSimpArgs false
/-! ### l06_HunkApart: function 6 -/
mutual
def l06_HunkApart.j0 : Nat → List ByteArray → List ByteArray → Bool → Option (Bool)
 | 0, _, _, _ => none
 | k + 1, x0, x1, x26 => if x26 = true then (some true) else ((hunk_Texts.f k x0 x1).bind fun t432 => (l06_HunkApart.l0 k x0 x1 t432 0 0 0))
def l06_HunkApart.l0 : Nat → List ByteArray → List ByteArray → List (S40) → Int → Int → Int → Option (Bool)
 | 0, _, _, _, _, _, _ => none
 | k + 1, x0, x1, x8, x9, x10, x11 => if x11 ≤ (x8.length : Int) then (if x11 < (x8.length : Int) then (if 0 ≤ x11 then (l06_HunkApart.j2 k x0 x1 x8 x9 x10 x11 ((rd_T40 x8 x11).f0) ((rd_T40 x8 x11).f2)) else (none)) else (l06_HunkApart.j2 k x0 x1 x8 x9 x10 x11 (x0.length : Int) (x1.length : Int))) else ((hunk_Check.f k x8 (x0.length : Int) (x1.length : Int)).bind fun t435 => (if t435 = 0 then ((r01_Same.f k x0 x1).bind fun t436 => (some (((x8.length : Int) == 0) == t436))) else (none)))
def l06_HunkApart.j2 : Nat → List ByteArray → List ByteArray → List (S40) → Int → Int → Int → Int → Int → Option (Bool)
 | 0, _, _, _, _, _, _, _, _ => none
 | k + 1, x0, x1, x8, x9, x10, x11, x12, x13 => if (wrap64 (x12 - x9)) = (wrap64 (x13 - x10)) then (if x12 < x9 then (l06_HunkApart.j3 k x0 x1 x8 x9 x10 x11 x12 true) else (if x11 > 0 then (if x11 < (x8.length : Int) then (l06_HunkApart.j3 k x0 x1 x8 x9 x10 x11 x12 (x12 == x9)) else (l06_HunkApart.j3 k x0 x1 x8 x9 x10 x11 x12 false)) else (l06_HunkApart.j3 k x0 x1 x8 x9 x10 x11 x12 false))) else (l06_HunkApart.j3 k x0 x1 x8 x9 x10 x11 x12 true)
def l06_HunkApart.j3 : Nat → List ByteArray → List ByteArray → List (S40) → Int → Int → Int → Int → Bool → Option (Bool)
 | 0, _, _, _, _, _, _, _, _ => none
 | k + 1, x0, x1, x8, x9, x10, x11, x12, x80 => if x80 = true then (none) else (l06_HunkApart.l1 k x0 x1 x8 x9 x10 x11 x12)
def l06_HunkApart.l1 : Nat → List ByteArray → List ByteArray → List (S40) → Int → Int → Int → Int → Option (Bool)
 | 0, _, _, _, _, _, _, _ => none
 | k + 1, x0, x1, x8, x9, x10, x11, x12 => if x9 < x12 then (if 0 ≤ x9 then (if x9 < (x0.length : Int) then (if 0 ≤ x10 then (if x10 < (x1.length : Int) then (if (rdOf ByteArray.empty x0 x9).toList = (rdOf ByteArray.empty x1 x10).toList then (l06_HunkApart.l1 k x0 x1 x8 (wrap64 (x9 + 1)) (wrap64 (x10 + 1)) x11 x12) else (none)) else (none)) else (none)) else (none)) else (none)) else (if x11 < (x8.length : Int) then (if 0 ≤ x11 then (l06_HunkApart.l0 k x0 x1 x8 (wrap64 (x9 + ((rd_T40 x8 x11).f1))) (wrap64 (x10 + ((rd_T40 x8 x11).f3))) (wrap64 (x11 + 1))) else (none)) else (l06_HunkApart.l0 k x0 x1 x8 x9 x10 (wrap64 (x11 + 1))))
end
def l06_HunkApart.f (k : Nat) (l0 : List ByteArray) (l1 : List ByteArray) : Option (Bool) := (l06_awake.f k).bind fun t429 => (if t429 = true then ((l06_short.f l0).bind fun t430 => ((l06_short.f l1).bind fun t431 => (if t430 = true then (l06_HunkApart.j0 k l0 l1 (!t431)) else (l06_HunkApart.j0 k l0 l1 true)))) else (none))
set_option maxHeartbeats 8000000 in
set_option maxRecDepth 100000 in
theorem l06_HunkApart.calls (k : Nat) (A0 : Option Addr) (c0 : Nat) (l0 : List ByteArray) (A1 : Option Addr) (c1 : Nat) (l1 : List ByteArray) (r : Bool) (w : World) (hr0 : Kd.C Kd.string w A0 l0.length l0) (hc0 : l0.length ≤ c0) (hr1 : Kd.C Kd.string w A1 l1.length l1) (hc1 : l1.length ≤ c1) (h : l06_HunkApart.f k l0 l1 = some r) :
  Calls Try.prog 6 #[.slice A0 l0.length c0, .slice A1 l1.length c1] w fun e w' => e = .returned (.bool r) ∧ Below w.heap.size w w' := by
 have HR0 := Zm hr0
 have HC0 := Zm hc0
 clear hr0 hc0
 have HR1 := Zm hr1
 have HC1 := Zm hc1
 clear hr1 hc1
 have HB := Zm (Below.refl w.heap.size w)
 have H : ((l06_awake.f k).bind fun t429 => (if t429 = true then ((l06_short.f l0).bind fun t430 => ((l06_short.f l1).bind fun t431 => (if t430 = true then (l06_HunkApart.j0 k l0 l1 (!t431)) else (l06_HunkApart.j0 k l0 l1 true)))) else (none))) = some r := h
 clear h
 replace H := Option.bind_eq_some_iff.mp H
 obtain ⟨t429, A30, H⟩ := H
 replace H : (if t429 = true then ((l06_short.f l0).bind fun t430 => ((l06_short.f l1).bind fun t431 => (if t430 = true then (l06_HunkApart.j0 k l0 l1 (!t431)) else (l06_HunkApart.j0 k l0 l1 true)))) else (none)) = some r := H
 have A3 := Zm A30
 clear A30
 by_cases c4 : t429 = true
 ·subst c4
  have H1 : ((l06_short.f l0).bind fun t430 => ((l06_short.f l1).bind fun t431 => (if t430 = true then (l06_HunkApart.j0 k l0 l1 (!t431)) else (l06_HunkApart.j0 k l0 l1 true)))) = some r := by rw [if_pos rfl] at H; exact H
  clear H
  have H := H1
  clear H1
  replace H := Option.bind_eq_some_iff.mp H
  obtain ⟨t430, A50, H⟩ := H
  replace H : ((l06_short.f l1).bind fun t431 => (if t430 = true then (l06_HunkApart.j0 k l0 l1 (!t431)) else (l06_HunkApart.j0 k l0 l1 true))) = some r := H
  have A5 := Zm A50
  clear A50
  replace H := Option.bind_eq_some_iff.mp H
  obtain ⟨t431, A60, H⟩ := H
  replace H : (if t430 = true then (l06_HunkApart.j0 k l0 l1 (!t431)) else (l06_HunkApart.j0 k l0 l1 true)) = some r := H
  have A6 := Zm A60
  clear A60
  have HC7 := Zm H
  clear H
  go_enter Try.func6, Try.ntmps6
  go_upto_region 6 with (first | (go_at_call 7; (with_reducible refine (l06_awake.calls k  true _ A3.out).mono ?_); rintro e w8 ⟨rfl, hb⟩; have n0_ := Zm (below_step (by repeat (first | (with_reducible first | exact HB.out | apply below_alloc | apply Zd | apply below_drew1) | exact HB.out)) hb); clear HB; have HB := n0_; clear n0_; (try clear hb); (try clear hb2); (try clear hk); (try clear hi)) | (go_at_call 13; (with_reducible refine (l06_short.calls _ _ l0 t430 _ ?side1 ?side2 A5.out).mono ?_); (case side1 => repeat (first | exact (Kd.C_below HR0.out HB.out) | (with_reducible refine Kd.C_alloc ?_ _) | (with_reducible refine Kd.C_drewN ?_ _) | (with_reducible refine Kd.C_drew ?_))); (case side2 => exact HC0.out); rintro e w' ⟨rfl, ⟨nd, rfl⟩⟩; (try first | exact ⟨rfl, _, World.drewN_drewN _ _ _⟩ | exact ⟨rfl, _, Eq.trans (World.drewN_drewN _ _ _) (congrArg (World.drewN _) (Nat.add_assoc _ _ _))⟩)) | (go_at_call 13; (with_reducible refine (l06_short.calls _ _ l1 t431 _ ?side1 ?side2 A6.out).mono ?_); (case side1 => repeat (first | exact (Kd.C_below HR1.out (by repeat (first | (with_reducible first | exact HB.out | apply below_alloc | apply Zd | apply below_drew1) | exact HB.out))) | (with_reducible refine Kd.C_alloc ?_ _) | (with_reducible refine Kd.C_drewN ?_ _) | (with_reducible refine Kd.C_drew ?_))); (case side2 => exact HC1.out); rintro e w' ⟨rfl, ⟨nd, rfl⟩⟩; (try first | exact ⟨rfl, _, World.drewN_drewN _ _ _⟩ | exact ⟨rfl, _, Eq.trans (World.drewN_drewN _ _ _) (congrArg (World.drewN _) (Nat.add_assoc _ _ _))⟩)))
  repeat (go_quiet (first | (go_at_call 7; (with_reducible refine (l06_awake.calls k  true _ A3.out).mono ?_); rintro e w8 ⟨rfl, hb⟩; have n0_ := Zm (below_step (by repeat (first | (with_reducible first | exact HB.out | apply below_alloc | apply Zd | apply below_drew1) | exact HB.out)) hb); clear HB; have HB := n0_; clear n0_; (try clear hb); (try clear hb2); (try clear hk); (try clear hi)) | (go_at_call 13; (with_reducible refine (l06_short.calls _ _ l0 t430 _ ?side1 ?side2 A5.out).mono ?_); (case side1 => repeat (first | exact (Kd.C_below HR0.out HB.out) | (with_reducible refine Kd.C_alloc ?_ _) | (with_reducible refine Kd.C_drewN ?_ _) | (with_reducible refine Kd.C_drew ?_))); (case side2 => exact HC0.out); rintro e w' ⟨rfl, ⟨nd, rfl⟩⟩; (try first | exact ⟨rfl, _, World.drewN_drewN _ _ _⟩ | exact ⟨rfl, _, Eq.trans (World.drewN_drewN _ _ _) (congrArg (World.drewN _) (Nat.add_assoc _ _ _))⟩)) | (go_at_call 13; (with_reducible refine (l06_short.calls _ _ l1 t431 _ ?side1 ?side2 A6.out).mono ?_); (case side1 => repeat (first | exact (Kd.C_below HR1.out (by repeat (first | (with_reducible first | exact HB.out | apply below_alloc | apply Zd | apply below_drew1) | exact HB.out))) | (with_reducible refine Kd.C_alloc ?_ _) | (with_reducible refine Kd.C_drewN ?_ _) | (with_reducible refine Kd.C_drew ?_))); (case side2 => exact HC1.out); rintro e w' ⟨rfl, ⟨nd, rfl⟩⟩; (try first | exact ⟨rfl, _, World.drewN_drewN _ _ _⟩ | exact ⟨rfl, _, Eq.trans (World.drewN_drewN _ _ _) (congrArg (World.drewN _) (Nat.add_assoc _ _ _))⟩))); go_upto_region 6 with (first | (go_at_call 7; (with_reducible refine (l06_awake.calls k  true _ A3.out).mono ?_); rintro e w8 ⟨rfl, hb⟩; have n0_ := Zm (below_step (by repeat (first | (with_reducible first | exact HB.out | apply below_alloc | apply Zd | apply below_drew1) | exact HB.out)) hb); clear HB; have HB := n0_; clear n0_; (try clear hb); (try clear hb2); (try clear hk); (try clear hi)) | (go_at_call 13; (with_reducible refine (l06_short.calls _ _ l0 t430 _ ?side1 ?side2 A5.out).mono ?_); (case side1 => repeat (first | exact (Kd.C_below HR0.out HB.out) | (with_reducible refine Kd.C_alloc ?_ _) | (with_reducible refine Kd.C_drewN ?_ _) | (with_reducible refine Kd.C_drew ?_))); (case side2 => exact HC0.out); rintro e w' ⟨rfl, ⟨nd, rfl⟩⟩; (try first | exact ⟨rfl, _, World.drewN_drewN _ _ _⟩ | exact ⟨rfl, _, Eq.trans (World.drewN_drewN _ _ _) (congrArg (World.drewN _) (Nat.add_assoc _ _ _))⟩)) | (go_at_call 13; (with_reducible refine (l06_short.calls _ _ l1 t431 _ ?side1 ?side2 A6.out).mono ?_); (case side1 => repeat (first | exact (Kd.C_below HR1.out (by repeat (first | (with_reducible first | exact HB.out | apply below_alloc | apply Zd | apply below_drew1) | exact HB.out))) | (with_reducible refine Kd.C_alloc ?_ _) | (with_reducible refine Kd.C_drewN ?_ _) | (with_reducible refine Kd.C_drew ?_))); (case side2 => exact HC1.out); rintro e w' ⟨rfl, ⟨nd, rfl⟩⟩; (try first | exact ⟨rfl, _, World.drewN_drewN _ _ _⟩ | exact ⟨rfl, _, Eq.trans (World.drewN_drewN _ _ _) (congrArg (World.drewN _) (Nat.add_assoc _ _ _))⟩))))
  (try simp only [Act.put, List.setIfInBounds_toArray, List.set_cons_zero, List.set_cons_succ])
  go_cut [26] (fun v26 wc => ∃ (kq : Nat) (x26_6 : Bool), v26 = .bool x26_6 ∧ Aside0 (l06_HunkApart.j0 kq l0 l1 x26_6 = some r) ∧ Aside0 (kq ≤ k) ∧ Aside0 (Below w.heap.size w wc))
  case first =>
   have H := HC7.out
   clear HC7
   by_cases c9 : t430 = true
   ·subst c9
    have H1 : (l06_HunkApart.j0 k l0 l1 (!t431)) = some r := by rw [if_pos rfl] at H; exact H
    clear H
    have H := H1
    clear H1
    have H' := Zm H
    clear H
    go_wp2
    repeat (go_quiet (fail); try go_wp2)
    go_meet
    case rel => exact ⟨_, (!t431), (by first | rfl | (simp; done) | (simp [*]; done)), H', ⟨by first | omega | exact Nat.le_refl _⟩, ⟨by repeat (first | (with_reducible first | exact HB.out | apply below_alloc | apply Zd | apply below_drew1) | exact HB.out)⟩⟩
   ·replace c9 := Bool.eq_false_iff.mpr c9
    subst c9
    have H1 : (l06_HunkApart.j0 k l0 l1 true) = some r := by rw [if_neg (show ¬ (false = true) by decide)] at H; exact H
    clear H
    have H := H1
    clear H1
    have H' := Zm H
    clear H
    go_wp2
    repeat (go_quiet (fail); try go_wp2)
    go_meet
    case rel => exact ⟨_, (true), (by first | rfl | (simp; done) | (simp [*]; done)), H', ⟨by first | omega | exact Nat.le_refl _⟩, ⟨by repeat (first | (with_reducible first | exact HB.out | apply below_alloc | apply Zd | apply below_drew1) | exact HB.out)⟩⟩
  case rest =>
   clear HC7
   try clear c1
   try clear p2
   try clear c4
   try clear c6
   try clear c9
   obtain ⟨kq, x26_6, rfl, HA, HJ6, HB⟩ := hcut
   cases kq with
   | zero => exact absurd HA.out (by simp [l06_HunkApart.j0])
   | succ kj6 =>
    have H := HA.out
    clear HA
    simp only [l06_HunkApart.j0] at H
    by_cases c10 : x26_6 = true
    ·subst c10
     have H1 : (some true) = some r := by rw [if_pos rfl] at H; exact H
     clear H
     have H := H1
     clear H1
     obtain rfl := Option.some.inj H
     go_wp2
     repeat (go_quiet (fail); try go_wp2)
     go_ret
     exact ⟨by first | rfl | (simp [errW_none, errW_some] <;> rfl) | (simp [*, errW_none, errW_some] <;> rfl), by repeat (first | (with_reducible first | exact HB.out | apply below_alloc | apply Zd | apply below_drew1) | exact HB.out)⟩
    ·replace c10 := Bool.eq_false_iff.mpr c10
     subst c10
     have H1 : ((hunk_Texts.f kj6 l0 l1).bind fun t432 => (l06_HunkApart.l0 kj6 l0 l1 t432 0 0 0)) = some r := by rw [if_neg (show ¬ (false = true) by decide)] at H; exact H
     clear H
     have H := H1
     clear H1
     replace H := Option.bind_eq_some_iff.mp H
     obtain ⟨t432, A110, H⟩ := H
     replace H : (l06_HunkApart.l0 kj6 l0 l1 t432 0 0 0) = some r := H
     have A11 := Zm A110
     clear A110
     have H' := Zm H
     clear H
     go_wp2_with (first | (go_at_call 11; (with_reducible refine (hunk_Texts.calls kj6 _ _ l0 _ _ l1 t432 _ ?side1 ?side2 ?side3 ?side4 A11.out).mono ?_); (case side1 => repeat (first | exact (Kd.C_below HR0.out HB.out) | (with_reducible refine Kd.C_alloc ?_ _) | (with_reducible refine Kd.C_drewN ?_ _) | (with_reducible refine Kd.C_drew ?_))); (case side2 => exact HC0.out); (case side3 => repeat (first | exact (Kd.C_below HR1.out HB.out) | (with_reducible refine Kd.C_alloc ?_ _) | (with_reducible refine Kd.C_drewN ?_ _) | (with_reducible refine Kd.C_drew ?_))); (case side4 => exact HC1.out); rintro e w12 ⟨v433, rfl, ho0, hb⟩; have n0_ := Zm (Kd.R_lower ho0 (below_size (by repeat (first | (with_reducible first | exact HB.out | apply below_alloc | apply Zd | apply below_drew1) | exact HB.out)))); have n1_ := Zm (below_step (by repeat (first | (with_reducible first | exact HB.out | apply below_alloc | apply Zd | apply below_drew1) | exact HB.out)) hb); clear HB; have HO434 := n0_; have HB := n1_; clear n0_ n1_; (try clear hb); (try clear hb2); (try clear hk); (try clear hi); (try clear ho0)))
     repeat (go_quiet (first | (go_at_call 11; (with_reducible refine (hunk_Texts.calls kj6 _ _ l0 _ _ l1 t432 _ ?side1 ?side2 ?side3 ?side4 A11.out).mono ?_); (case side1 => repeat (first | exact (Kd.C_below HR0.out HB.out) | (with_reducible refine Kd.C_alloc ?_ _) | (with_reducible refine Kd.C_drewN ?_ _) | (with_reducible refine Kd.C_drew ?_))); (case side2 => exact HC0.out); (case side3 => repeat (first | exact (Kd.C_below HR1.out HB.out) | (with_reducible refine Kd.C_alloc ?_ _) | (with_reducible refine Kd.C_drewN ?_ _) | (with_reducible refine Kd.C_drew ?_))); (case side4 => exact HC1.out); rintro e w12 ⟨v433, rfl, ho0, hb⟩; have n0_ := Zm (Kd.R_lower ho0 (below_size (by repeat (first | (with_reducible first | exact HB.out | apply below_alloc | apply Zd | apply below_drew1) | exact HB.out)))); have n1_ := Zm (below_step (by repeat (first | (with_reducible first | exact HB.out | apply below_alloc | apply Zd | apply below_drew1) | exact HB.out)) hb); clear HB; have HO434 := n0_; have HB := n1_; clear n0_ n1_; (try clear hb); (try clear hb2); (try clear hk); (try clear hi); (try clear ho0))); try go_wp2_with (first | (go_at_call 11; (with_reducible refine (hunk_Texts.calls kj6 _ _ l0 _ _ l1 t432 _ ?side1 ?side2 ?side3 ?side4 A11.out).mono ?_); (case side1 => repeat (first | exact (Kd.C_below HR0.out HB.out) | (with_reducible refine Kd.C_alloc ?_ _) | (with_reducible refine Kd.C_drewN ?_ _) | (with_reducible refine Kd.C_drew ?_))); (case side2 => exact HC0.out); (case side3 => repeat (first | exact (Kd.C_below HR1.out HB.out) | (with_reducible refine Kd.C_alloc ?_ _) | (with_reducible refine Kd.C_drewN ?_ _) | (with_reducible refine Kd.C_drew ?_))); (case side4 => exact HC1.out); rintro e w12 ⟨v433, rfl, ho0, hb⟩; have n0_ := Zm (Kd.R_lower ho0 (below_size (by repeat (first | (with_reducible first | exact HB.out | apply below_alloc | apply Zd | apply below_drew1) | exact HB.out)))); have n1_ := Zm (below_step (by repeat (first | (with_reducible first | exact HB.out | apply below_alloc | apply Zd | apply below_drew1) | exact HB.out)) hb); clear HB; have HO434 := n0_; have HB := n1_; clear n0_ n1_; (try clear hb); (try clear hb2); (try clear hk); (try clear hi); (try clear ho0))))
     go_loopg [9, 10, 11] kj6 (fun kq v9 v10 v11 w' => ∃ (x9_2 : Int) (x10_2 : Int) (x11_2 : Int), v9 = .int .i64 x9_2 ∧ v10 = .int .i64 x10_2 ∧ v11 = .int .i64 x11_2 ∧ Aside0 (l06_HunkApart.l0 kq l0 l1 t432 x9_2 x10_2 x11_2 = some r) ∧ Aside0 (kq ≤ kj6) ∧ Aside0 (Kd.R k40 40 w' w.heap.size (fun _ => True) v433 t432) ∧ Aside0 (Below w.heap.size w w'))
     case atStart => exact ⟨(0), (0), (0), (by first | rfl | (simp; done) | (simp [*]; done)), (by first | rfl | (simp; done) | (simp [*]; done)), (by first | rfl | (simp; done) | (simp [*]; done)), H', ⟨Nat.le_refl _⟩, ⟨by (with_reducible repeat (first | apply Kd.R_alloc | apply Kd.R_drewN | apply Kd.R_drew)); first | exact HO434.out | exact Kd.R_mono HO434.out (fun _ _ => trivial)⟩, ⟨by repeat (first | (with_reducible first | exact HB.out | apply below_alloc | apply Zd | apply below_drew1) | exact HB.out)⟩⟩
     case round =>
      clear H'
      try clear c1
      try clear p2
      try clear c4
      try clear c6
      try clear c9
      try clear c10
      try clear p2
      obtain ⟨x9_2, x10_2, x11_2, rfl, rfl, rfl, HA, HK2, HO_8, HB⟩ := hrel
      cases gk with
      | zero => exact absurd HA.out (by simp [l06_HunkApart.l0])
      | succ k2 =>
       have H := HA.out
       clear HA
       simp only [l06_HunkApart.l0] at H
       by_cases c13 : x11_2 ≤ (t432.length : Int)
       ·rw [if_pos c13] at H
        have c13b0 : decide (x11_2 ≤ (t432.length : Int)) = true := decide_eq_true c13
        clear c13
        have HC14 := Zm H
        clear H
        obtain ⟨Ao15, co15, eo15⟩ := Kd.R_slice HO_8.out
        subst eo15
        go_upto_if 43 with (fail)
        repeat (go_quiet (fail); go_upto_if 43 with (fail))
        go_cut [12, 13] (fun v12 v13 wc => ∃ (kq : Nat) (x12_13 : Int) (x13_13 : Int), v12 = .int .i64 x12_13 ∧ v13 = .int .i64 x13_13 ∧ Aside0 (l06_HunkApart.j2 kq l0 l1 t432 x9_2 x10_2 x11_2 x12_13 x13_13 = some r) ∧ Aside0 (kq ≤ k2) ∧ Aside0 (Kd.R k40 40 wc w.heap.size (fun _ => True) (.slice Ao15 t432.length co15) t432) ∧ Aside0 (Below w.heap.size w wc))
        case first =>
         have H := HC14.out
         clear HC14
         by_cases c16 : x11_2 < (t432.length : Int)
         ·rw [if_pos c16] at H
          have c16b0 : decide (x11_2 < (t432.length : Int)) = true := decide_eq_true c16
          clear c16
          (first | rw [c16b0] | (simp only [i64_w, i32_w]; rw [c16b0]) | skip)
          by_cases c17 : 0 ≤ x11_2
          ·rw [if_pos c17] at H
           have c17b0 : decide (0 ≤ x11_2) = true := decide_eq_true c17
           clear c17
           have H' := Zm H
           clear H
           have p437 : 0 ≤ (x11_2 : Int) := Zo (by first | (with_reducible assumption) | assumption)
           have q437 : x11_2 < (t432.length : Int) := Zo (by first | (with_reducible assumption) | assumption)
           obtain ⟨ad437, e437, hx437_0, hx437_1, hx437_2, hx437_3⟩ := at_T40 (Kd.R_reads' HO_8.out).2.2 x11_2 p437 q437
           cases e437
           replace p437 := eq_true p437
           replace q437 := eq_true q437
           have p438 : 0 ≤ (x11_2 : Int) := Zo (by first | (with_reducible assumption) | assumption)
           have q438 : x11_2 < (t432.length : Int) := Zo (by first | (with_reducible assumption) | assumption)
           obtain ⟨ad438, e438, hx438_0, hx438_1, hx438_2, hx438_3⟩ := at_T40 (Kd.R_reads' HO_8.out).2.2 x11_2 p438 q438
           obtain rfl : ad437 = ad438 := (by injection e438)
           replace p438 := eq_true p438
           replace q438 := eq_true q438
           go_wp2
           repeat (go_quiet (fail); try go_wp2)
           go_meet
           case rel => exact ⟨_, ((rd_T40 t432 x11_2).f0), ((rd_T40 t432 x11_2).f2), (by first | rfl | (simp; done) | (simp [*]; done)), (by first | rfl | (simp; done) | (simp [*]; done)), H', ⟨by have := HJ6.out; have := HK2.out; first | omega | exact Nat.le_refl _⟩, ⟨by (with_reducible repeat (first | apply Kd.R_alloc | apply Kd.R_drewN | apply Kd.R_drew)); first | exact HO_8.out | exact Kd.R_mono HO_8.out (fun _ _ => trivial)⟩, ⟨by repeat (first | (with_reducible first | exact HB.out | apply below_alloc | apply Zd | apply below_drew1) | exact HB.out)⟩⟩
          ·rw [if_neg c17] at H
           exact absurd H (by simp)
         ·rw [if_neg c16] at H
          have c16b0 : decide (x11_2 < (t432.length : Int)) = false := decide_eq_false c16
          clear c16
          (first | rw [c16b0] | (simp only [i64_w, i32_w]; rw [c16b0]) | skip)
          have H' := Zm H
          clear H
          go_wp2
          repeat (go_quiet (fail); try go_wp2)
          go_meet
          case rel => exact ⟨_, ((l0.length : Int)), ((l1.length : Int)), (by first | rfl | (simp; done) | (simp [*]; done)), (by first | rfl | (simp; done) | (simp [*]; done)), H', ⟨by have := HJ6.out; have := HK2.out; first | omega | exact Nat.le_refl _⟩, ⟨by (with_reducible repeat (first | apply Kd.R_alloc | apply Kd.R_drewN | apply Kd.R_drew)); first | exact HO_8.out | exact Kd.R_mono HO_8.out (fun _ _ => trivial)⟩, ⟨by repeat (first | (with_reducible first | exact HB.out | apply below_alloc | apply Zd | apply below_drew1) | exact HB.out)⟩⟩
        case rest =>
         clear HC14
         try clear c1
         try clear p2
         try clear c4
         try clear p4
         try clear q4
         try clear hx4
         try clear c6
         try clear c9
         try clear c10
         try clear c13
         try clear c13b0
         try clear c16
         try clear c16b0
         try clear c17
         try clear c17b0
         try clear hx437_0
         try clear hx437_1
         try clear hx437_2
         try clear hx437_3
         try clear hx438_0
         try clear hx438_1
         try clear hx438_2
         try clear hx438_3
         try clear p2
         try clear p437
         try clear p438
         try clear q437
         try clear q438
         obtain ⟨kq, x12_13, x13_13, rfl, rfl, HA, HJ13, HO_8, HB⟩ := hcut
         cases kq with
         | zero => exact absurd HA.out (by simp [l06_HunkApart.j2])
         | succ kj13 =>
          have H := HA.out
          clear HA
          simp only [l06_HunkApart.j2] at H
          have HC18 := Zm H
          clear H
          go_upto_region 19 with (fail)
          repeat (go_quiet (fail); go_upto_region 19 with (fail))
          go_cut [80] (fun v80 wc => ∃ (kq : Nat) (x80_17 : Bool), v80 = .bool x80_17 ∧ Aside0 (l06_HunkApart.j3 kq l0 l1 t432 x9_2 x10_2 x11_2 x12_13 x80_17 = some r) ∧ Aside0 (kq ≤ kj13) ∧ Aside0 (Kd.R k40 40 wc w.heap.size (fun _ => True) (.slice Ao15 t432.length co15) t432) ∧ Aside0 (Below w.heap.size w wc))
          case first =>
           have H := HC18.out
           clear HC18
           by_cases c19 : (wrap64 (x12_13 - x9_2)) = (wrap64 (x13_13 - x10_2))
           ·rw [if_pos c19] at H
            have c19b0 : ((wrap64 (x12_13 - x9_2)) == (wrap64 (x13_13 - x10_2))) = true := beq_iff_eq.mpr c19
            have c19b1 : ((wrap64 (x12_13 - x9_2)) != (wrap64 (x13_13 - x10_2))) = false := bne_eq_false_iff_eq.mpr c19
            clear c19
            (first | rw [c19b0] | (simp only [i64_w, i32_w]; rw [c19b0]) | skip)
            by_cases c20 : x12_13 < x9_2
            ·rw [if_pos c20] at H
             have c20b0 : decide (x12_13 < x9_2) = true := decide_eq_true c20
             clear c20
             have H' := Zm H
             clear H
             go_wp2
             repeat (go_quiet (fail); try go_wp2)
             go_meet
             case rel => exact ⟨_, (true), (by first | rfl | (simp; done) | (simp [*]; done)), H', ⟨by have := HJ6.out; have := HK2.out; have := HJ13.out; first | omega | exact Nat.le_refl _⟩, ⟨by (with_reducible repeat (first | apply Kd.R_alloc | apply Kd.R_drewN | apply Kd.R_drew)); first | exact HO_8.out | exact Kd.R_mono HO_8.out (fun _ _ => trivial)⟩, ⟨by repeat (first | (with_reducible first | exact HB.out | apply below_alloc | apply Zd | apply below_drew1) | exact HB.out)⟩⟩
            ·rw [if_neg c20] at H
             have c20b0 : decide (x12_13 < x9_2) = false := decide_eq_false c20
             clear c20
             by_cases c21 : x11_2 > 0
             ·rw [if_pos c21] at H
              have c21b0 : decide (0 < x11_2) = true := decide_eq_true c21
              clear c21
              by_cases c22 : x11_2 < (t432.length : Int)
              ·rw [if_pos c22] at H
               have c22b0 : decide (x11_2 < (t432.length : Int)) = true := decide_eq_true c22
               clear c22
               have H' := Zm H
               clear H
               go_wp2
               repeat (go_quiet (fail); try go_wp2)
               go_meet
               case rel => exact ⟨_, ((x12_13 == x9_2)), (by first | rfl | (simp; done) | (simp [*]; done)), H', ⟨by have := HJ6.out; have := HK2.out; have := HJ13.out; first | omega | exact Nat.le_refl _⟩, ⟨by (with_reducible repeat (first | apply Kd.R_alloc | apply Kd.R_drewN | apply Kd.R_drew)); first | exact HO_8.out | exact Kd.R_mono HO_8.out (fun _ _ => trivial)⟩, ⟨by repeat (first | (with_reducible first | exact HB.out | apply below_alloc | apply Zd | apply below_drew1) | exact HB.out)⟩⟩
              ·rw [if_neg c22] at H
               have c22b0 : decide (x11_2 < (t432.length : Int)) = false := decide_eq_false c22
               clear c22
               have H' := Zm H
               clear H
               go_wp2
               repeat (go_quiet (fail); try go_wp2)
               go_meet
               case rel => exact ⟨_, (false), (by first | rfl | (simp; done) | (simp [*]; done)), H', ⟨by have := HJ6.out; have := HK2.out; have := HJ13.out; first | omega | exact Nat.le_refl _⟩, ⟨by (with_reducible repeat (first | apply Kd.R_alloc | apply Kd.R_drewN | apply Kd.R_drew)); first | exact HO_8.out | exact Kd.R_mono HO_8.out (fun _ _ => trivial)⟩, ⟨by repeat (first | (with_reducible first | exact HB.out | apply below_alloc | apply Zd | apply below_drew1) | exact HB.out)⟩⟩
             ·rw [if_neg c21] at H
              have c21b0 : decide (0 < x11_2) = false := decide_eq_false c21
              clear c21
              have H' := Zm H
              clear H
              go_wp2
              repeat (go_quiet (fail); try go_wp2)
              go_meet
              case rel => exact ⟨_, (false), (by first | rfl | (simp; done) | (simp [*]; done)), H', ⟨by have := HJ6.out; have := HK2.out; have := HJ13.out; first | omega | exact Nat.le_refl _⟩, ⟨by (with_reducible repeat (first | apply Kd.R_alloc | apply Kd.R_drewN | apply Kd.R_drew)); first | exact HO_8.out | exact Kd.R_mono HO_8.out (fun _ _ => trivial)⟩, ⟨by repeat (first | (with_reducible first | exact HB.out | apply below_alloc | apply Zd | apply below_drew1) | exact HB.out)⟩⟩
           ·rw [if_neg c19] at H
            have c19b0 : ((wrap64 (x12_13 - x9_2)) == (wrap64 (x13_13 - x10_2))) = false := beq_eq_false_iff_ne.mpr c19
            have c19b1 : ((wrap64 (x12_13 - x9_2)) != (wrap64 (x13_13 - x10_2))) = true := bne_iff_ne.mpr c19
            (first | rw [c19b0] | (simp only [i64_w, i32_w]; rw [c19b0]) | skip)
            have H' := Zm H
            clear H
            go_wp2
            repeat (go_quiet (fail); try go_wp2)
            go_meet
            case rel => exact ⟨_, (true), (by first | rfl | (simp; done) | (simp [*]; done)), H', ⟨by have := HJ6.out; have := HK2.out; have := HJ13.out; first | omega | exact Nat.le_refl _⟩, ⟨by (with_reducible repeat (first | apply Kd.R_alloc | apply Kd.R_drewN | apply Kd.R_drew)); first | exact HO_8.out | exact Kd.R_mono HO_8.out (fun _ _ => trivial)⟩, ⟨by repeat (first | (with_reducible first | exact HB.out | apply below_alloc | apply Zd | apply below_drew1) | exact HB.out)⟩⟩
          case rest =>
           clear HC18
           try clear c1
           try clear c2
           try clear p2
           try clear c4
           try clear p4
           try clear q4
           try clear hx4
           try clear c6
           try clear p6
           try clear c9
           try clear c10
           try clear c13
           try clear c13b0
           try clear c16
           try clear c16b0
           try clear c17
           try clear c17b0
           try clear c19
           try clear c19b0
           try clear c19b1
           try clear c20
           try clear c20b0
           try clear c21
           try clear c21b0
           try clear c22
           try clear c22b0
           try clear hx437_0
           try clear hx437_1
           try clear hx437_2
           try clear hx437_3
           try clear hx438_0
           try clear hx438_1
           try clear hx438_2
           try clear hx438_3
           try clear p2
           try clear p4
           try clear p437
           try clear p438
           try clear q4
           try clear q437
           try clear q438
           obtain ⟨kq, x80_17, rfl, HA, HJ17, HO_8, HB⟩ := hcut
           cases kq with
           | zero => exact absurd HA.out (by simp [l06_HunkApart.j3])
           | succ kj17 =>
            have H := HA.out
            clear HA
            simp only [l06_HunkApart.j3] at H
            by_cases c23 : x80_17 = true
            ·subst c23
             have H1 : (none) = some r := by rw [if_pos rfl] at H; exact H
             clear H
             have H := H1
             clear H1
             exact absurd H (by simp)
            ·replace c23 := Bool.eq_false_iff.mpr c23
             subst c23
             have H1 : (l06_HunkApart.l1 kj17 l0 l1 t432 x9_2 x10_2 x11_2 x12_13) = some r := by rw [if_neg (show ¬ (false = true) by decide)] at H; exact H
             clear H
             have H := H1
             clear H1
             have H' := Zm H
             clear H
             go_wp2
             repeat (go_quiet (fail); try go_wp2)
             go_loopg [9, 10] kj17 (fun kq v9 v10 w' => ∃ (x9_5 : Int) (x10_5 : Int), v9 = .int .i64 x9_5 ∧ v10 = .int .i64 x10_5 ∧ Aside0 (l06_HunkApart.l1 kq l0 l1 t432 x9_5 x10_5 x11_2 x12_13 = some r) ∧ Aside0 (kq ≤ kj17) ∧ Aside0 (Kd.R k40 40 w' w.heap.size (fun _ => True) (.slice Ao15 t432.length co15) t432) ∧ Aside0 (Below w.heap.size w w'))
             case atStart => exact ⟨(x9_2), (x10_2), (by first | rfl | (simp; done) | (simp [*]; done)), (by first | rfl | (simp; done) | (simp [*]; done)), H', ⟨Nat.le_refl _⟩, ⟨by (with_reducible repeat (first | apply Kd.R_alloc | apply Kd.R_drewN | apply Kd.R_drew)); first | exact HO_8.out | exact Kd.R_mono HO_8.out (fun _ _ => trivial)⟩, ⟨by repeat (first | (with_reducible first | exact HB.out | apply below_alloc | apply Zd | apply below_drew1) | exact HB.out)⟩⟩
             case round =>
              clear H'
              try clear c1
              try clear c2
              try clear p2
              try clear c4
              try clear p4
              try clear q4
              try clear hx4
              try clear c6
              try clear p6
              try clear c9
              try clear c10
              try clear c13
              try clear c13b0
              try clear c16
              try clear c16b0
              try clear c17
              try clear c17b0
              try clear c19
              try clear c19b0
              try clear c19b1
              try clear c20
              try clear c20b0
              try clear c21
              try clear c21b0
              try clear c22
              try clear c22b0
              try clear c23
              try clear hx437_0
              try clear hx437_1
              try clear hx437_2
              try clear hx437_3
              try clear hx438_0
              try clear hx438_1
              try clear hx438_2
              try clear hx438_3
              try clear p2
              try clear p4
              try clear p437
              try clear p438
              try clear p6
              try clear q4
              try clear q437
              try clear q438
              obtain ⟨x9_5, x10_5, rfl, rfl, HA, HK5, HO_8, HB⟩ := hrel
              cases gk with
              | zero => exact absurd HA.out (by simp [l06_HunkApart.l1])
              | succ k5 =>
               have H := HA.out
               clear HA
               simp only [l06_HunkApart.l1] at H
               by_cases c24 : x9_5 < x12_13
               ·rw [if_pos c24] at H
                have c24b0 : decide (x9_5 < x12_13) = true := decide_eq_true c24
                clear c24
                by_cases c25 : 0 ≤ x9_5
                ·rw [if_pos c25] at H
                 have c25b0 : decide (0 ≤ x9_5) = true := decide_eq_true c25
                 clear c25
                 by_cases c26 : x9_5 < (l0.length : Int)
                 ·rw [if_pos c26] at H
                  have c26b0 : decide (x9_5 < (l0.length : Int)) = true := decide_eq_true c26
                  clear c26
                  by_cases c27 : 0 ≤ x10_5
                  ·rw [if_pos c27] at H
                   have c27b0 : decide (0 ≤ x10_5) = true := decide_eq_true c27
                   clear c27
                   by_cases c28 : x10_5 < (l1.length : Int)
                   ·rw [if_pos c28] at H
                    have c28b0 : decide (x10_5 < (l1.length : Int)) = true := decide_eq_true c28
                    clear c28
                    by_cases c29 : (rdOf ByteArray.empty l0 x9_5).toList = (rdOf ByteArray.empty l1 x10_5).toList
                    ·rw [if_pos c29] at H
                     have c29b0 : ((rdOf ByteArray.empty l0 x9_5).toList == (rdOf ByteArray.empty l1 x10_5).toList) = true := beq_iff_eq.mpr c29
                     have c29b1 : ((rdOf ByteArray.empty l0 x9_5).toList != (rdOf ByteArray.empty l1 x10_5).toList) = false := bne_eq_false_iff_eq.mpr c29
                     clear c29
                     have H' := Zm H
                     clear H
                     have p439 : 0 ≤ (x9_5 : Int) := Zo (by first | (with_reducible assumption) | assumption)
                     have q439 : x9_5 < (l0.length : Int) := Zo (by first | (with_reducible assumption) | assumption)
                     obtain ⟨ad439, e439, hx439_0⟩ := Kd.at_string HR0.out x9_5 p439 q439
                     cases e439
                     replace hx439_0 := (HB.out.cell (World.block_lt_of_cell? w _ hx439_0)).trans hx439_0
                     replace p439 := eq_true p439
                     replace q439 := eq_true q439
                     have p440 : 0 ≤ (x10_5 : Int) := Zo (by first | (with_reducible assumption) | assumption)
                     have q440 : x10_5 < (l1.length : Int) := Zo (by first | (with_reducible assumption) | assumption)
                     obtain ⟨ad440, e440, hx440_0⟩ := Kd.at_string HR1.out x10_5 p440 q440
                     cases e440
                     replace hx440_0 := (HB.out.cell (World.block_lt_of_cell? w _ hx440_0)).trans hx440_0
                     replace p440 := eq_true p440
                     replace q440 := eq_true q440
                     go_wp2
                     repeat (go_quiet (fail); try go_wp2)
                     go_roundg k5
                     case measure => have := HJ6.out; have := HK2.out; have := HJ13.out; have := HJ17.out; have := HK5.out; omega
                     case rel => exact ⟨(wrap64 (x9_5 + 1)), (wrap64 (x10_5 + 1)), (by first | rfl | (simp; done) | (simp [*]; done)), (by first | rfl | (simp; done) | (simp [*]; done)), H', ⟨by have := HJ6.out; have := HK2.out; have := HJ13.out; have := HJ17.out; have := HK5.out; omega⟩, ⟨by (with_reducible repeat (first | apply Kd.R_alloc | apply Kd.R_drewN | apply Kd.R_drew)); first | exact HO_8.out | exact Kd.R_mono HO_8.out (fun _ _ => trivial)⟩, ⟨by repeat (first | (with_reducible first | exact HB.out | apply below_alloc | apply Zd | apply below_drew1) | exact HB.out)⟩⟩
                    ·rw [if_neg c29] at H
                     exact absurd H (by simp)
                   ·rw [if_neg c28] at H
                    exact absurd H (by simp)
                  ·rw [if_neg c27] at H
                   exact absurd H (by simp)
                 ·rw [if_neg c26] at H
                  exact absurd H (by simp)
                ·rw [if_neg c25] at H
                 exact absurd H (by simp)
               ·rw [if_neg c24] at H
                have c24b0 : decide (x9_5 < x12_13) = false := decide_eq_false c24
                clear c24
                by_cases c30 : x11_2 < (t432.length : Int)
                ·rw [if_pos c30] at H
                 have c30b0 : decide (x11_2 < (t432.length : Int)) = true := decide_eq_true c30
                 clear c30
                 by_cases c31 : 0 ≤ x11_2
                 ·rw [if_pos c31] at H
                  have c31b0 : decide (0 ≤ x11_2) = true := decide_eq_true c31
                  clear c31
                  have H' := Zm H
                  clear H
                  have p441 : 0 ≤ (x11_2 : Int) := Zo (by first | (with_reducible assumption) | assumption)
                  have q441 : x11_2 < (t432.length : Int) := Zo (by first | (with_reducible assumption) | assumption)
                  obtain ⟨ad441, e441, hx441_0, hx441_1, hx441_2, hx441_3⟩ := at_T40 (Kd.R_reads' HO_8.out).2.2 x11_2 p441 q441
                  cases e441
                  replace p441 := eq_true p441
                  replace q441 := eq_true q441
                  have p442 : 0 ≤ (x11_2 : Int) := Zo (by first | (with_reducible assumption) | assumption)
                  have q442 : x11_2 < (t432.length : Int) := Zo (by first | (with_reducible assumption) | assumption)
                  obtain ⟨ad442, e442, hx442_0, hx442_1, hx442_2, hx442_3⟩ := at_T40 (Kd.R_reads' HO_8.out).2.2 x11_2 p442 q442
                  obtain rfl : ad441 = ad442 := (by injection e442)
                  replace p442 := eq_true p442
                  replace q442 := eq_true q442
                  go_wp2
                  repeat (go_quiet (fail); try go_wp2)
                  go_roundg k5
                  case measure => have := HJ6.out; have := HK2.out; have := HJ13.out; have := HJ17.out; have := HK5.out; omega
                  case rel => exact ⟨(wrap64 (x9_5 + ((rd_T40 t432 x11_2).f1))), (wrap64 (x10_5 + ((rd_T40 t432 x11_2).f3))), (wrap64 (x11_2 + 1)), (by first | rfl | (simp; done) | (simp [*]; done)), (by first | rfl | (simp; done) | (simp [*]; done)), (by first | rfl | (simp; done) | (simp [*]; done)), H', ⟨by have := HJ6.out; have := HK2.out; have := HJ13.out; have := HJ17.out; have := HK5.out; omega⟩, ⟨by (with_reducible repeat (first | apply Kd.R_alloc | apply Kd.R_drewN | apply Kd.R_drew)); first | exact HO_8.out | exact Kd.R_mono HO_8.out (fun _ _ => trivial)⟩, ⟨by repeat (first | (with_reducible first | exact HB.out | apply below_alloc | apply Zd | apply below_drew1) | exact HB.out)⟩⟩
                 ·rw [if_neg c31] at H
                  exact absurd H (by simp)
                ·rw [if_neg c30] at H
                 have c30b0 : decide (x11_2 < (t432.length : Int)) = false := decide_eq_false c30
                 clear c30
                 have H' := Zm H
                 clear H
                 go_wp2
                 repeat (go_quiet (fail); try go_wp2)
                 go_roundg k5
                 case measure => have := HJ6.out; have := HK2.out; have := HJ13.out; have := HJ17.out; have := HK5.out; omega
                 case rel => exact ⟨(x9_5), (x10_5), (wrap64 (x11_2 + 1)), (by first | rfl | (simp; done) | (simp [*]; done)), (by first | rfl | (simp; done) | (simp [*]; done)), (by first | rfl | (simp; done) | (simp [*]; done)), H', ⟨by have := HJ6.out; have := HK2.out; have := HJ13.out; have := HJ17.out; have := HK5.out; omega⟩, ⟨by (with_reducible repeat (first | apply Kd.R_alloc | apply Kd.R_drewN | apply Kd.R_drew)); first | exact HO_8.out | exact Kd.R_mono HO_8.out (fun _ _ => trivial)⟩, ⟨by repeat (first | (with_reducible first | exact HB.out | apply below_alloc | apply Zd | apply below_drew1) | exact HB.out)⟩⟩
       ·rw [if_neg c13] at H
        have c13b0 : decide (x11_2 ≤ (t432.length : Int)) = false := decide_eq_false c13
        clear c13
        replace H := Option.bind_eq_some_iff.mp H
        obtain ⟨t435, A320, H⟩ := H
        replace H : (if t435 = 0 then ((r01_Same.f k2 l0 l1).bind fun t436 => (some (((t432.length : Int) == 0) == t436))) else (none)) = some r := H
        have A32 := Zm A320
        clear A320
        by_cases c33 : t435 = 0
        ·rw [if_pos c33] at H
         have c33b0 : (t435 == 0) = true := beq_iff_eq.mpr c33
         have c33b1 : (t435 != 0) = false := bne_eq_false_iff_eq.mpr c33
         clear c33
         replace H := Option.bind_eq_some_iff.mp H
         obtain ⟨t436, A340, H⟩ := H
         replace H : (some (((t432.length : Int) == 0) == t436)) = some r := H
         have A34 := Zm A340
         clear A340
         obtain rfl := Option.some.inj H
         obtain ⟨Ao35, co35, eo35⟩ := Kd.R_slice HO_8.out
         subst eo35
         go_wp2_with (first | (go_at_call 17; (with_reducible refine (hunk_Check.calls k2 _ _ t432 (l0.length : Int) (l1.length : Int) t435 _ ?side1 ?side2 A32.out).mono ?_); (case side1 => repeat (first | exact (Kd.R_reads' HO_8.out).2.2 | (with_reducible refine Kd.C_alloc ?_ _) | (with_reducible refine Kd.C_drewN ?_ _) | (with_reducible refine Kd.C_drew ?_))); (case side2 => exact (Kd.R_reads' HO_8.out).2.1); rintro e w36 ⟨rfl, hb⟩; have n0_ := Zm (Kd.R_below (by (with_reducible repeat (first | apply Kd.R_alloc | apply Kd.R_drewN | apply Kd.R_drew)); exact HO_8.out) hb); have n1_ := Zm (below_step (by repeat (first | (with_reducible first | exact HB.out | apply below_alloc | apply Zd | apply below_drew1) | exact HB.out)) hb); clear HO_8; clear HB; have HO_8 := n0_; have HB := n1_; clear n0_ n1_; (try clear hb); (try clear hb2); (try clear hk); (try clear hi)) | (go_at_call 18; (with_reducible refine (r01_Same.calls k2 _ _ l0 _ _ l1 t436 _ ?side1 ?side2 ?side3 ?side4 A34.out).mono ?_); (case side1 => repeat (first | exact (Kd.C_below HR0.out HB.out) | (with_reducible refine Kd.C_alloc ?_ _) | (with_reducible refine Kd.C_drewN ?_ _) | (with_reducible refine Kd.C_drew ?_))); (case side2 => exact HC0.out); (case side3 => repeat (first | exact (Kd.C_below HR1.out HB.out) | (with_reducible refine Kd.C_alloc ?_ _) | (with_reducible refine Kd.C_drewN ?_ _) | (with_reducible refine Kd.C_drew ?_))); (case side4 => exact HC1.out); rintro e w' ⟨rfl, ⟨nd, rfl⟩⟩; (try first | exact ⟨rfl, _, World.drewN_drewN _ _ _⟩ | exact ⟨rfl, _, Eq.trans (World.drewN_drewN _ _ _) (congrArg (World.drewN _) (Nat.add_assoc _ _ _))⟩)))
         repeat (go_quiet (first | (go_at_call 17; (with_reducible refine (hunk_Check.calls k2 _ _ t432 (l0.length : Int) (l1.length : Int) t435 _ ?side1 ?side2 A32.out).mono ?_); (case side1 => repeat (first | exact (Kd.R_reads' HO_8.out).2.2 | (with_reducible refine Kd.C_alloc ?_ _) | (with_reducible refine Kd.C_drewN ?_ _) | (with_reducible refine Kd.C_drew ?_))); (case side2 => exact (Kd.R_reads' HO_8.out).2.1); rintro e w36 ⟨rfl, hb⟩; have n0_ := Zm (Kd.R_below (by (with_reducible repeat (first | apply Kd.R_alloc | apply Kd.R_drewN | apply Kd.R_drew)); exact HO_8.out) hb); have n1_ := Zm (below_step (by repeat (first | (with_reducible first | exact HB.out | apply below_alloc | apply Zd | apply below_drew1) | exact HB.out)) hb); clear HO_8; clear HB; have HO_8 := n0_; have HB := n1_; clear n0_ n1_; (try clear hb); (try clear hb2); (try clear hk); (try clear hi)) | (go_at_call 18; (with_reducible refine (r01_Same.calls k2 _ _ l0 _ _ l1 t436 _ ?side1 ?side2 ?side3 ?side4 A34.out).mono ?_); (case side1 => repeat (first | exact (Kd.C_below HR0.out HB.out) | (with_reducible refine Kd.C_alloc ?_ _) | (with_reducible refine Kd.C_drewN ?_ _) | (with_reducible refine Kd.C_drew ?_))); (case side2 => exact HC0.out); (case side3 => repeat (first | exact (Kd.C_below HR1.out HB.out) | (with_reducible refine Kd.C_alloc ?_ _) | (with_reducible refine Kd.C_drewN ?_ _) | (with_reducible refine Kd.C_drew ?_))); (case side4 => exact HC1.out); rintro e w' ⟨rfl, ⟨nd, rfl⟩⟩; (try first | exact ⟨rfl, _, World.drewN_drewN _ _ _⟩ | exact ⟨rfl, _, Eq.trans (World.drewN_drewN _ _ _) (congrArg (World.drewN _) (Nat.add_assoc _ _ _))⟩))); try go_wp2_with (first | (go_at_call 17; (with_reducible refine (hunk_Check.calls k2 _ _ t432 (l0.length : Int) (l1.length : Int) t435 _ ?side1 ?side2 A32.out).mono ?_); (case side1 => repeat (first | exact (Kd.R_reads' HO_8.out).2.2 | (with_reducible refine Kd.C_alloc ?_ _) | (with_reducible refine Kd.C_drewN ?_ _) | (with_reducible refine Kd.C_drew ?_))); (case side2 => exact (Kd.R_reads' HO_8.out).2.1); rintro e w36 ⟨rfl, hb⟩; have n0_ := Zm (Kd.R_below (by (with_reducible repeat (first | apply Kd.R_alloc | apply Kd.R_drewN | apply Kd.R_drew)); exact HO_8.out) hb); have n1_ := Zm (below_step (by repeat (first | (with_reducible first | exact HB.out | apply below_alloc | apply Zd | apply below_drew1) | exact HB.out)) hb); clear HO_8; clear HB; have HO_8 := n0_; have HB := n1_; clear n0_ n1_; (try clear hb); (try clear hb2); (try clear hk); (try clear hi)) | (go_at_call 18; (with_reducible refine (r01_Same.calls k2 _ _ l0 _ _ l1 t436 _ ?side1 ?side2 ?side3 ?side4 A34.out).mono ?_); (case side1 => repeat (first | exact (Kd.C_below HR0.out HB.out) | (with_reducible refine Kd.C_alloc ?_ _) | (with_reducible refine Kd.C_drewN ?_ _) | (with_reducible refine Kd.C_drew ?_))); (case side2 => exact HC0.out); (case side3 => repeat (first | exact (Kd.C_below HR1.out HB.out) | (with_reducible refine Kd.C_alloc ?_ _) | (with_reducible refine Kd.C_drewN ?_ _) | (with_reducible refine Kd.C_drew ?_))); (case side4 => exact HC1.out); rintro e w' ⟨rfl, ⟨nd, rfl⟩⟩; (try first | exact ⟨rfl, _, World.drewN_drewN _ _ _⟩ | exact ⟨rfl, _, Eq.trans (World.drewN_drewN _ _ _) (congrArg (World.drewN _) (Nat.add_assoc _ _ _))⟩))))
         go_ret
         exact ⟨by first | rfl | (simp [errW_none, errW_some] <;> rfl) | (simp [*, errW_none, errW_some] <;> rfl), by repeat (first | (with_reducible first | exact HB.out | apply below_alloc | apply Zd | apply below_drew1) | exact HB.out)⟩
        ·rw [if_neg c33] at H
         exact absurd H (by simp)
 ·replace c4 := Bool.eq_false_iff.mpr c4
  subst c4
  have H1 : (none) = some r := by rw [if_neg (show ¬ (false = true) by decide)] at H; exact H
  clear H
  have H := H1
  clear H1
  exact absurd H (by simp)
end Go.Proofs.Ytphghffdaceaoaa.PHunk
