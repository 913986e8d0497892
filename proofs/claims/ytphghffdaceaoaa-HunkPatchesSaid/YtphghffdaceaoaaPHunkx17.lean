/- Laid by a program of this session out of the seat's translation. -/
import Derived.Test.YtphghffdaceaoaaPHunkx0
import Derived.Test.YtphghffdaceaoaaPHunkx2
import Derived.Test.YtphghffdaceaoaaPHunkx6
import Derived.Test.YtphghffdaceaoaaPHunkx7
import Derived.Test.YtphghffdaceaoaaPHunkx8
import Derived.Test.YtphghffdaceaoaaPHunkx12
import Derived.Test.YtphghffdaceaoaaPHunkx14
import Derived.Test.YtphghffdaceaoaaPHunkx15
import Derived.Test.YtphghffdaceaoaaPHunkx16
namespace Go.Proofs.Ytphghffdaceaoaa.PHunk
open Go.RowKit Go.Proofs.YtphghffdaceaoaaW.PrintWords Go.Proofs.YtphghffdaceaoaaW.PrintLast Go.Proofs.YtphghffdaceaoaaW.PrintMore
attribute [local go_sem] max2_int min2_int max_two min_two max_three min_three max_four min_four   -- for this text's walks alone
set_option linter.unusedVariables false
set_option linter.unusedSimpArgs false
/-! ### l06_HunkPatches: function 4 -/
mutual
def l06_HunkPatches.j0 : Nat → List ByteArray → List (S40) → List ByteArray → Bool → Option (Bool)
 | 0, _, _, _, _ => none
 | k + 1, x0, x1, x2, x34 => if x34 = true then (some true) else ((hunk_Patch.f k x0 x1 x2).bind fun bt368 => ((r06_Patch.f k x0 x1 x2).bind fun bt372 => ((r06_May.f k x1 (x0.length : Int) (x2.length : Int)).bind fun t376 => ((hunk_Check.f k x1 (x0.length : Int) (x2.length : Int)).bind fun t377 => (if ((t377 == 0) != t376) = true then (l06_HunkPatches.j1 k x1 t376 true) else (if bt368.2 = bt372.2 then ((r01_Same.f k bt368.1 bt372.1).bind fun t378 => (if t378 = true then ((hunk_Invert.f k x1).bind fun t379 => ((r06_Invert.f k x1).bind fun t382 => ((r06_Same.f k t379 t382).bind fun t385 => (l06_HunkPatches.j1 k x1 t376 (!t385))))) else (l06_HunkPatches.j1 k x1 t376 true))) else (l06_HunkPatches.j1 k x1 t376 true)))))))
def l06_HunkPatches.j1 : Nat → List (S40) → Bool → Bool → Option (Bool)
 | 0, _, _, _ => none
 | k + 1, x1, x14, x82 => if x82 = true then (none) else (if x14 = true then (l06_HunkPatches.l0 k x1 0 0) else (some true))
def l06_HunkPatches.l0 : Nat → List (S40) → Int → Int → Option (Bool)
 | 0, _, _, _ => none
 | k + 1, x1, x15, x16 => if x16 < (x1.length : Int) then (if 0 ≤ x16 then (l06_HunkPatches.l0 k x1 (wrap64 (x15 + (wrap64 (((rd_T40 x1 x16).f1) + ((rd_T40 x1 x16).f3))))) (wrap64 (x16 + 1))) else (none)) else ((hunk_Cost.f k x1).bind fun t388 => (some (t388 == x15)))
end
def l06_HunkPatches.f (k : Nat) (l0 : List ByteArray) (l1 : List (S40)) (l2 : List ByteArray) : Option (Bool) := (l06_awake.f k).bind fun t365 => (if t365 = true then ((l06_short.f l0).bind fun t366 => ((l06_short.f l2).bind fun t367 => (if t366 = true then (if t367 = true then (l06_HunkPatches.j0 k l0 l1 l2 (decide ((l1.length : Int) > 100))) else (l06_HunkPatches.j0 k l0 l1 l2 true)) else (l06_HunkPatches.j0 k l0 l1 l2 true)))) else (none))
theorem l06_HunkPatches.mono_l : ∀ k, (∀ y0 y1 y2 y3, LeO (l06_HunkPatches.j0 k y0 y1 y2 y3) (l06_HunkPatches.j0 (k + 1) y0 y1 y2 y3)) ∧ (∀ y0 y1 y2, LeO (l06_HunkPatches.j1 k y0 y1 y2) (l06_HunkPatches.j1 (k + 1) y0 y1 y2)) ∧ (∀ y0 y1 y2, LeO (l06_HunkPatches.l0 k y0 y1 y2) (l06_HunkPatches.l0 (k + 1) y0 y1 y2))
 | 0 => ⟨fun _ _ _ _ r h => by simp [l06_HunkPatches.j0] at h, fun _ _ _ r h => by simp [l06_HunkPatches.j1] at h, fun _ _ _ r h => by simp [l06_HunkPatches.l0] at h⟩
 | k + 1 => by
  obtain ⟨ih0, ih1, ih2⟩ := l06_HunkPatches.mono_l k
  refine ⟨?_, ?_, ?_⟩
  ·intro y0 y1 y2 y3
   unfold l06_HunkPatches.j0
   repeat' first
   | (with_reducible exact ih0 _ _ _ _)
   | (with_reducible exact ih1 _ _ _)
   | (with_reducible exact ih2 _ _ _)
   | (with_reducible exact l06_awake.mono _)
   | (with_reducible exact r01_Same.mono _ _ _)
   | (with_reducible exact r06_Invert.mono _ _)
   | (with_reducible exact r06_May.mono _ _ _ _)
   | (with_reducible exact r06_Patch.mono _ _ _ _)
   | (with_reducible exact r06_Same.mono _ _ _)
   | (with_reducible exact hunk_Check.mono _ _ _ _)
   | (with_reducible exact hunk_Cost.mono _ _)
   | (with_reducible exact hunk_Invert.mono _ _)
   | (with_reducible exact hunk_Patch.mono _ _ _ _)
   | (with_reducible exact LeO.refl _)
   | (with_reducible exact LeO.none _)
   | (with_reducible refine LeO.ite ?_ ?_)
   | (with_reducible refine LeO.bind ?_ (fun _ => ?_))
   | exact ih0 _ _ _ _
   | exact ih1 _ _ _
   | exact ih2 _ _ _
   | exact l06_awake.mono _
   | exact r01_Same.mono _ _ _
   | exact r06_Invert.mono _ _
   | exact r06_May.mono _ _ _ _
   | exact r06_Patch.mono _ _ _ _
   | exact r06_Same.mono _ _ _
   | exact hunk_Check.mono _ _ _ _
   | exact hunk_Cost.mono _ _
   | exact hunk_Invert.mono _ _
   | exact hunk_Patch.mono _ _ _ _
   | exact LeO.none _
   | refine LeO.ite ?_ ?_
   | refine LeO.bind ?_ (fun _ => ?_)
  ·intro y0 y1 y2
   unfold l06_HunkPatches.j1
   repeat' first
   | (with_reducible exact ih0 _ _ _ _)
   | (with_reducible exact ih1 _ _ _)
   | (with_reducible exact ih2 _ _ _)
   | (with_reducible exact l06_awake.mono _)
   | (with_reducible exact r01_Same.mono _ _ _)
   | (with_reducible exact r06_Invert.mono _ _)
   | (with_reducible exact r06_May.mono _ _ _ _)
   | (with_reducible exact r06_Patch.mono _ _ _ _)
   | (with_reducible exact r06_Same.mono _ _ _)
   | (with_reducible exact hunk_Check.mono _ _ _ _)
   | (with_reducible exact hunk_Cost.mono _ _)
   | (with_reducible exact hunk_Invert.mono _ _)
   | (with_reducible exact hunk_Patch.mono _ _ _ _)
   | (with_reducible exact LeO.refl _)
   | (with_reducible exact LeO.none _)
   | (with_reducible refine LeO.ite ?_ ?_)
   | (with_reducible refine LeO.bind ?_ (fun _ => ?_))
   | exact ih0 _ _ _ _
   | exact ih1 _ _ _
   | exact ih2 _ _ _
   | exact l06_awake.mono _
   | exact r01_Same.mono _ _ _
   | exact r06_Invert.mono _ _
   | exact r06_May.mono _ _ _ _
   | exact r06_Patch.mono _ _ _ _
   | exact r06_Same.mono _ _ _
   | exact hunk_Check.mono _ _ _ _
   | exact hunk_Cost.mono _ _
   | exact hunk_Invert.mono _ _
   | exact hunk_Patch.mono _ _ _ _
   | exact LeO.none _
   | refine LeO.ite ?_ ?_
   | refine LeO.bind ?_ (fun _ => ?_)
  ·intro y0 y1 y2
   unfold l06_HunkPatches.l0
   repeat' first
   | (with_reducible exact ih0 _ _ _ _)
   | (with_reducible exact ih1 _ _ _)
   | (with_reducible exact ih2 _ _ _)
   | (with_reducible exact l06_awake.mono _)
   | (with_reducible exact r01_Same.mono _ _ _)
   | (with_reducible exact r06_Invert.mono _ _)
   | (with_reducible exact r06_May.mono _ _ _ _)
   | (with_reducible exact r06_Patch.mono _ _ _ _)
   | (with_reducible exact r06_Same.mono _ _ _)
   | (with_reducible exact hunk_Check.mono _ _ _ _)
   | (with_reducible exact hunk_Cost.mono _ _)
   | (with_reducible exact hunk_Invert.mono _ _)
   | (with_reducible exact hunk_Patch.mono _ _ _ _)
   | (with_reducible exact LeO.refl _)
   | (with_reducible exact LeO.none _)
   | (with_reducible refine LeO.ite ?_ ?_)
   | (with_reducible refine LeO.bind ?_ (fun _ => ?_))
   | exact ih0 _ _ _ _
   | exact ih1 _ _ _
   | exact ih2 _ _ _
   | exact l06_awake.mono _
   | exact r01_Same.mono _ _ _
   | exact r06_Invert.mono _ _
   | exact r06_May.mono _ _ _ _
   | exact r06_Patch.mono _ _ _ _
   | exact r06_Same.mono _ _ _
   | exact hunk_Check.mono _ _ _ _
   | exact hunk_Cost.mono _ _
   | exact hunk_Invert.mono _ _
   | exact hunk_Patch.mono _ _ _ _
   | exact LeO.none _
   | refine LeO.ite ?_ ?_
   | refine LeO.bind ?_ (fun _ => ?_)
theorem l06_HunkPatches.mono : ∀ a0 a1 a2 k, LeO (l06_HunkPatches.f k a0 a1 a2) (l06_HunkPatches.f (k + 1) a0 a1 a2) := by
 intro a0 a1 a2 k
 obtain ⟨ih0, ih1, ih2⟩ := l06_HunkPatches.mono_l k
 unfold l06_HunkPatches.f
 repeat' first
   | (with_reducible exact ih0 _ _ _ _)
   | (with_reducible exact ih1 _ _ _)
   | (with_reducible exact ih2 _ _ _)
   | (with_reducible exact l06_awake.mono _)
   | (with_reducible exact r01_Same.mono _ _ _)
   | (with_reducible exact r06_Invert.mono _ _)
   | (with_reducible exact r06_May.mono _ _ _ _)
   | (with_reducible exact r06_Patch.mono _ _ _ _)
   | (with_reducible exact r06_Same.mono _ _ _)
   | (with_reducible exact hunk_Check.mono _ _ _ _)
   | (with_reducible exact hunk_Cost.mono _ _)
   | (with_reducible exact hunk_Invert.mono _ _)
   | (with_reducible exact hunk_Patch.mono _ _ _ _)
   | (with_reducible exact LeO.refl _)
   | (with_reducible exact LeO.none _)
   | (with_reducible refine LeO.ite ?_ ?_)
   | (with_reducible refine LeO.bind ?_ (fun _ => ?_))
   | exact ih0 _ _ _ _
   | exact ih1 _ _ _
   | exact ih2 _ _ _
   | exact l06_awake.mono _
   | exact r01_Same.mono _ _ _
   | exact r06_Invert.mono _ _
   | exact r06_May.mono _ _ _ _
   | exact r06_Patch.mono _ _ _ _
   | exact r06_Same.mono _ _ _
   | exact hunk_Check.mono _ _ _ _
   | exact hunk_Cost.mono _ _
   | exact hunk_Invert.mono _ _
   | exact hunk_Patch.mono _ _ _ _
   | exact LeO.none _
   | refine LeO.ite ?_ ?_
   | refine LeO.bind ?_ (fun _ => ?_)
set_option maxHeartbeats 8000000 in
set_option maxRecDepth 100000 in
theorem l06_HunkPatches.calls (k : Nat) (A0 : Option Addr) (c0 : Nat) (l0 : List ByteArray) (A1 : Option Addr) (c1 : Nat) (l1 : List (S40)) (A2 : Option Addr) (c2 : Nat) (l2 : List ByteArray) (r : Bool) (w : World) (hr0 : Kd.C Kd.string w A0 l0.length l0) (hc0 : l0.length ≤ c0) (hr1 : Kd.C k40 w A1 l1.length l1) (hc1 : l1.length ≤ c1) (hr2 : Kd.C Kd.string w A2 l2.length l2) (hc2 : l2.length ≤ c2) (h : l06_HunkPatches.f k l0 l1 l2 = some r) :
  Calls Try.prog 4 #[.slice A0 l0.length c0, .slice A1 l1.length c1, .slice A2 l2.length c2] w fun e w' => e = .returned (.bool r) ∧ Below w.heap.size w w' := by
 have HR0 := Zm hr0
 have HC0 := Zm hc0
 clear hr0 hc0
 have HR1 := Zm hr1
 have HC1 := Zm hc1
 clear hr1 hc1
 have HR2 := Zm hr2
 have HC2 := Zm hc2
 clear hr2 hc2
 have HB := Zm (Below.refl w.heap.size w)
 have H : ((l06_awake.f k).bind fun t365 => (if t365 = true then ((l06_short.f l0).bind fun t366 => ((l06_short.f l2).bind fun t367 => (if t366 = true then (if t367 = true then (l06_HunkPatches.j0 k l0 l1 l2 (decide ((l1.length : Int) > 100))) else (l06_HunkPatches.j0 k l0 l1 l2 true)) else (l06_HunkPatches.j0 k l0 l1 l2 true)))) else (none))) = some r := h
 clear h
 replace H := Option.bind_eq_some_iff.mp H
 obtain ⟨t365, A40, H⟩ := H
 replace H : (if t365 = true then ((l06_short.f l0).bind fun t366 => ((l06_short.f l2).bind fun t367 => (if t366 = true then (if t367 = true then (l06_HunkPatches.j0 k l0 l1 l2 (decide ((l1.length : Int) > 100))) else (l06_HunkPatches.j0 k l0 l1 l2 true)) else (l06_HunkPatches.j0 k l0 l1 l2 true)))) else (none)) = some r := H
 have A4 := Zm A40
 clear A40
 by_cases c5 : t365 = true
 ·subst c5
  have H1 : ((l06_short.f l0).bind fun t366 => ((l06_short.f l2).bind fun t367 => (if t366 = true then (if t367 = true then (l06_HunkPatches.j0 k l0 l1 l2 (decide ((l1.length : Int) > 100))) else (l06_HunkPatches.j0 k l0 l1 l2 true)) else (l06_HunkPatches.j0 k l0 l1 l2 true)))) = some r := by rw [if_pos rfl] at H; exact H
  clear H
  have H := H1
  clear H1
  replace H := Option.bind_eq_some_iff.mp H
  obtain ⟨t366, A60, H⟩ := H
  replace H : ((l06_short.f l2).bind fun t367 => (if t366 = true then (if t367 = true then (l06_HunkPatches.j0 k l0 l1 l2 (decide ((l1.length : Int) > 100))) else (l06_HunkPatches.j0 k l0 l1 l2 true)) else (l06_HunkPatches.j0 k l0 l1 l2 true))) = some r := H
  have A6 := Zm A60
  clear A60
  replace H := Option.bind_eq_some_iff.mp H
  obtain ⟨t367, A70, H⟩ := H
  replace H : (if t366 = true then (if t367 = true then (l06_HunkPatches.j0 k l0 l1 l2 (decide ((l1.length : Int) > 100))) else (l06_HunkPatches.j0 k l0 l1 l2 true)) else (l06_HunkPatches.j0 k l0 l1 l2 true)) = some r := H
  have A7 := Zm A70
  clear A70
  have HC8 := Zm H
  clear H
  go_enter Try.func4, Try.ntmps4
  go_upto_region 6 with (first | (go_at_call 7; (with_reducible refine (l06_awake.calls k  true _ A4.out).mono ?_); rintro e w9 ⟨rfl, hb⟩; have n0_ := Zm (below_step (by repeat (first | (with_reducible first | exact HB.out | apply below_alloc | apply Zd | apply below_drew1) | exact HB.out)) hb); clear HB; have HB := n0_; clear n0_; (try clear hb); (try clear hb2); (try clear hk); (try clear hi)) | (go_at_call 13; (with_reducible refine (l06_short.calls _ _ l0 t366 _ ?side1 ?side2 A6.out).mono ?_); (case side1 => repeat (first | exact (Kd.C_below HR0.out HB.out) | (with_reducible refine Kd.C_alloc ?_ _) | (with_reducible refine Kd.C_drewN ?_ _) | (with_reducible refine Kd.C_drew ?_))); (case side2 => exact HC0.out); rintro e w' ⟨rfl, ⟨nd, rfl⟩⟩; (try first | exact ⟨rfl, _, World.drewN_drewN _ _ _⟩ | exact ⟨rfl, _, Eq.trans (World.drewN_drewN _ _ _) (congrArg (World.drewN _) (Nat.add_assoc _ _ _))⟩)) | (go_at_call 13; (with_reducible refine (l06_short.calls _ _ l2 t367 _ ?side1 ?side2 A7.out).mono ?_); (case side1 => repeat (first | exact (Kd.C_below HR2.out (by repeat (first | (with_reducible first | exact HB.out | apply below_alloc | apply Zd | apply below_drew1) | exact HB.out))) | (with_reducible refine Kd.C_alloc ?_ _) | (with_reducible refine Kd.C_drewN ?_ _) | (with_reducible refine Kd.C_drew ?_))); (case side2 => exact HC2.out); rintro e w' ⟨rfl, ⟨nd, rfl⟩⟩; (try first | exact ⟨rfl, _, World.drewN_drewN _ _ _⟩ | exact ⟨rfl, _, Eq.trans (World.drewN_drewN _ _ _) (congrArg (World.drewN _) (Nat.add_assoc _ _ _))⟩)))
  repeat (go_quiet (first | (go_at_call 7; (with_reducible refine (l06_awake.calls k  true _ A4.out).mono ?_); rintro e w9 ⟨rfl, hb⟩; have n0_ := Zm (below_step (by repeat (first | (with_reducible first | exact HB.out | apply below_alloc | apply Zd | apply below_drew1) | exact HB.out)) hb); clear HB; have HB := n0_; clear n0_; (try clear hb); (try clear hb2); (try clear hk); (try clear hi)) | (go_at_call 13; (with_reducible refine (l06_short.calls _ _ l0 t366 _ ?side1 ?side2 A6.out).mono ?_); (case side1 => repeat (first | exact (Kd.C_below HR0.out HB.out) | (with_reducible refine Kd.C_alloc ?_ _) | (with_reducible refine Kd.C_drewN ?_ _) | (with_reducible refine Kd.C_drew ?_))); (case side2 => exact HC0.out); rintro e w' ⟨rfl, ⟨nd, rfl⟩⟩; (try first | exact ⟨rfl, _, World.drewN_drewN _ _ _⟩ | exact ⟨rfl, _, Eq.trans (World.drewN_drewN _ _ _) (congrArg (World.drewN _) (Nat.add_assoc _ _ _))⟩)) | (go_at_call 13; (with_reducible refine (l06_short.calls _ _ l2 t367 _ ?side1 ?side2 A7.out).mono ?_); (case side1 => repeat (first | exact (Kd.C_below HR2.out (by repeat (first | (with_reducible first | exact HB.out | apply below_alloc | apply Zd | apply below_drew1) | exact HB.out))) | (with_reducible refine Kd.C_alloc ?_ _) | (with_reducible refine Kd.C_drewN ?_ _) | (with_reducible refine Kd.C_drew ?_))); (case side2 => exact HC2.out); rintro e w' ⟨rfl, ⟨nd, rfl⟩⟩; (try first | exact ⟨rfl, _, World.drewN_drewN _ _ _⟩ | exact ⟨rfl, _, Eq.trans (World.drewN_drewN _ _ _) (congrArg (World.drewN _) (Nat.add_assoc _ _ _))⟩))); go_upto_region 6 with (first | (go_at_call 7; (with_reducible refine (l06_awake.calls k  true _ A4.out).mono ?_); rintro e w9 ⟨rfl, hb⟩; have n0_ := Zm (below_step (by repeat (first | (with_reducible first | exact HB.out | apply below_alloc | apply Zd | apply below_drew1) | exact HB.out)) hb); clear HB; have HB := n0_; clear n0_; (try clear hb); (try clear hb2); (try clear hk); (try clear hi)) | (go_at_call 13; (with_reducible refine (l06_short.calls _ _ l0 t366 _ ?side1 ?side2 A6.out).mono ?_); (case side1 => repeat (first | exact (Kd.C_below HR0.out HB.out) | (with_reducible refine Kd.C_alloc ?_ _) | (with_reducible refine Kd.C_drewN ?_ _) | (with_reducible refine Kd.C_drew ?_))); (case side2 => exact HC0.out); rintro e w' ⟨rfl, ⟨nd, rfl⟩⟩; (try first | exact ⟨rfl, _, World.drewN_drewN _ _ _⟩ | exact ⟨rfl, _, Eq.trans (World.drewN_drewN _ _ _) (congrArg (World.drewN _) (Nat.add_assoc _ _ _))⟩)) | (go_at_call 13; (with_reducible refine (l06_short.calls _ _ l2 t367 _ ?side1 ?side2 A7.out).mono ?_); (case side1 => repeat (first | exact (Kd.C_below HR2.out (by repeat (first | (with_reducible first | exact HB.out | apply below_alloc | apply Zd | apply below_drew1) | exact HB.out))) | (with_reducible refine Kd.C_alloc ?_ _) | (with_reducible refine Kd.C_drewN ?_ _) | (with_reducible refine Kd.C_drew ?_))); (case side2 => exact HC2.out); rintro e w' ⟨rfl, ⟨nd, rfl⟩⟩; (try first | exact ⟨rfl, _, World.drewN_drewN _ _ _⟩ | exact ⟨rfl, _, Eq.trans (World.drewN_drewN _ _ _) (congrArg (World.drewN _) (Nat.add_assoc _ _ _))⟩))))
  (try simp only [Act.put, List.setIfInBounds_toArray, List.set_cons_zero, List.set_cons_succ])
  go_cut [34] (fun v34 wc => ∃ (kq : Nat) (x34_7 : Bool), v34 = .bool x34_7 ∧ Aside0 (l06_HunkPatches.j0 kq l0 l1 l2 x34_7 = some r) ∧ Aside0 (kq ≤ k) ∧ Aside0 (Below w.heap.size w wc))
  case first =>
   have H := HC8.out
   clear HC8
   by_cases c10 : t366 = true
   ·subst c10
    have H1 : (if t367 = true then (l06_HunkPatches.j0 k l0 l1 l2 (decide ((l1.length : Int) > 100))) else (l06_HunkPatches.j0 k l0 l1 l2 true)) = some r := by rw [if_pos rfl] at H; exact H
    clear H
    have H := H1
    clear H1
    by_cases c11 : t367 = true
    ·subst c11
     have H1 : (l06_HunkPatches.j0 k l0 l1 l2 (decide ((l1.length : Int) > 100))) = some r := by rw [if_pos rfl] at H; exact H
     clear H
     have H := H1
     clear H1
     have H' := Zm H
     clear H
     go_wp2
     repeat (go_quiet (fail); try go_wp2)
     go_meet
     case rel => exact ⟨_, (decide ((l1.length : Int) > 100)), (by first | rfl | (simp; done) | (simp [*]; done)), H', ⟨by first | omega | exact Nat.le_refl _⟩, ⟨by repeat (first | (with_reducible first | exact HB.out | apply below_alloc | apply Zd | apply below_drew1) | exact HB.out)⟩⟩
    ·replace c11 := Bool.eq_false_iff.mpr c11
     subst c11
     have H1 : (l06_HunkPatches.j0 k l0 l1 l2 true) = some r := by rw [if_neg (show ¬ (false = true) by decide)] at H; exact H
     clear H
     have H := H1
     clear H1
     have H' := Zm H
     clear H
     go_wp2
     repeat (go_quiet (fail); try go_wp2)
     go_meet
     case rel => exact ⟨_, (true), (by first | rfl | (simp; done) | (simp [*]; done)), H', ⟨by first | omega | exact Nat.le_refl _⟩, ⟨by repeat (first | (with_reducible first | exact HB.out | apply below_alloc | apply Zd | apply below_drew1) | exact HB.out)⟩⟩
   ·replace c10 := Bool.eq_false_iff.mpr c10
    subst c10
    have H1 : (l06_HunkPatches.j0 k l0 l1 l2 true) = some r := by rw [if_neg (show ¬ (false = true) by decide)] at H; exact H
    clear H
    have H := H1
    clear H1
    have H' := Zm H
    clear H
    go_wp2
    repeat (go_quiet (fail); try go_wp2)
    go_meet
    case rel => exact ⟨_, (true), (by first | rfl | (simp; done) | (simp [*]; done)), H', ⟨by first | omega | exact Nat.le_refl _⟩, ⟨by repeat (first | (with_reducible first | exact HB.out | apply below_alloc | apply Zd | apply below_drew1) | exact HB.out)⟩⟩
  case rest =>
   clear HC8
   try clear c1
   try clear c2
   try clear p2
   try clear c4
   try clear c5
   try clear c10
   try clear c11
   obtain ⟨kq, x34_7, rfl, HA, HJ7, HB⟩ := hcut
   cases kq with
   | zero => exact absurd HA.out (by simp [l06_HunkPatches.j0])
   | succ kj7 =>
    have H := HA.out
    clear HA
    simp only [l06_HunkPatches.j0] at H
    by_cases c12 : x34_7 = true
    ·subst c12
     have H1 : (some true) = some r := by rw [if_pos rfl] at H; exact H
     clear H
     have H := H1
     clear H1
     obtain rfl := Option.some.inj H
     go_wp2
     repeat (go_quiet (fail); try go_wp2)
     go_ret
     exact ⟨by first | rfl | (simp [errW_none, errW_some] <;> rfl) | (simp [*, errW_none, errW_some] <;> rfl), by repeat (first | (with_reducible first | exact HB.out | apply below_alloc | apply Zd | apply below_drew1) | exact HB.out)⟩
    ·replace c12 := Bool.eq_false_iff.mpr c12
     subst c12
     have H1 : ((hunk_Patch.f kj7 l0 l1 l2).bind fun bt368 => ((r06_Patch.f kj7 l0 l1 l2).bind fun bt372 => ((r06_May.f kj7 l1 (l0.length : Int) (l2.length : Int)).bind fun t376 => ((hunk_Check.f kj7 l1 (l0.length : Int) (l2.length : Int)).bind fun t377 => (if ((t377 == 0) != t376) = true then (l06_HunkPatches.j1 kj7 l1 t376 true) else (if bt368.2 = bt372.2 then ((r01_Same.f kj7 bt368.1 bt372.1).bind fun t378 => (if t378 = true then ((hunk_Invert.f kj7 l1).bind fun t379 => ((r06_Invert.f kj7 l1).bind fun t382 => ((r06_Same.f kj7 t379 t382).bind fun t385 => (l06_HunkPatches.j1 kj7 l1 t376 (!t385))))) else (l06_HunkPatches.j1 kj7 l1 t376 true))) else (l06_HunkPatches.j1 kj7 l1 t376 true))))))) = some r := by rw [if_neg (show ¬ (false = true) by decide)] at H; exact H
     clear H
     have H := H1
     clear H1
     replace H := Option.bind_eq_some_iff.mp H
     obtain ⟨⟨t368, t369⟩, A130, H⟩ := H
     replace H : ((r06_Patch.f kj7 l0 l1 l2).bind fun bt372 => ((r06_May.f kj7 l1 (l0.length : Int) (l2.length : Int)).bind fun t376 => ((hunk_Check.f kj7 l1 (l0.length : Int) (l2.length : Int)).bind fun t377 => (if ((t377 == 0) != t376) = true then (l06_HunkPatches.j1 kj7 l1 t376 true) else (if t369 = bt372.2 then ((r01_Same.f kj7 t368 bt372.1).bind fun t378 => (if t378 = true then ((hunk_Invert.f kj7 l1).bind fun t379 => ((r06_Invert.f kj7 l1).bind fun t382 => ((r06_Same.f kj7 t379 t382).bind fun t385 => (l06_HunkPatches.j1 kj7 l1 t376 (!t385))))) else (l06_HunkPatches.j1 kj7 l1 t376 true))) else (l06_HunkPatches.j1 kj7 l1 t376 true)))))) = some r := H
     have A13 := Zm A130
     clear A130
     replace H := Option.bind_eq_some_iff.mp H
     obtain ⟨⟨t372, t373⟩, A140, H⟩ := H
     replace H : ((r06_May.f kj7 l1 (l0.length : Int) (l2.length : Int)).bind fun t376 => ((hunk_Check.f kj7 l1 (l0.length : Int) (l2.length : Int)).bind fun t377 => (if ((t377 == 0) != t376) = true then (l06_HunkPatches.j1 kj7 l1 t376 true) else (if t369 = t373 then ((r01_Same.f kj7 t368 t372).bind fun t378 => (if t378 = true then ((hunk_Invert.f kj7 l1).bind fun t379 => ((r06_Invert.f kj7 l1).bind fun t382 => ((r06_Same.f kj7 t379 t382).bind fun t385 => (l06_HunkPatches.j1 kj7 l1 t376 (!t385))))) else (l06_HunkPatches.j1 kj7 l1 t376 true))) else (l06_HunkPatches.j1 kj7 l1 t376 true))))) = some r := H
     have A14 := Zm A140
     clear A140
     replace H := Option.bind_eq_some_iff.mp H
     obtain ⟨t376, A150, H⟩ := H
     replace H : ((hunk_Check.f kj7 l1 (l0.length : Int) (l2.length : Int)).bind fun t377 => (if ((t377 == 0) != t376) = true then (l06_HunkPatches.j1 kj7 l1 t376 true) else (if t369 = t373 then ((r01_Same.f kj7 t368 t372).bind fun t378 => (if t378 = true then ((hunk_Invert.f kj7 l1).bind fun t379 => ((r06_Invert.f kj7 l1).bind fun t382 => ((r06_Same.f kj7 t379 t382).bind fun t385 => (l06_HunkPatches.j1 kj7 l1 t376 (!t385))))) else (l06_HunkPatches.j1 kj7 l1 t376 true))) else (l06_HunkPatches.j1 kj7 l1 t376 true)))) = some r := H
     have A15 := Zm A150
     clear A150
     have HC16 := Zm H
     clear H
     go_upto_region 11 with (first | (go_at_call 14; (with_reducible refine (hunk_Patch.calls kj7 _ _ l0 _ _ l1 _ _ l2 t368 t369 _ ?side1 ?side2 ?side3 ?side4 ?side5 ?side6 A13.out).mono ?_); (case side1 => repeat (first | exact (Kd.C_below HR0.out HB.out) | (with_reducible refine Kd.C_alloc ?_ _) | (with_reducible refine Kd.C_drewN ?_ _) | (with_reducible refine Kd.C_drew ?_))); (case side2 => exact HC0.out); (case side3 => repeat (first | exact (Kd.C_below HR1.out HB.out) | (with_reducible refine Kd.C_alloc ?_ _) | (with_reducible refine Kd.C_drewN ?_ _) | (with_reducible refine Kd.C_drew ?_))); (case side4 => exact HC1.out); (case side5 => repeat (first | exact (Kd.C_below HR2.out HB.out) | (with_reducible refine Kd.C_alloc ?_ _) | (with_reducible refine Kd.C_drewN ?_ _) | (with_reducible refine Kd.C_drew ?_))); (case side6 => exact HC2.out); rintro e w17 ⟨v370, rfl, ho0, hb⟩; have n0_ := Zm (Kd.R_lower ho0 (below_size (by repeat (first | (with_reducible first | exact HB.out | apply below_alloc | apply Zd | apply below_drew1) | exact HB.out)))); have n1_ := Zm (below_step (by repeat (first | (with_reducible first | exact HB.out | apply below_alloc | apply Zd | apply below_drew1) | exact HB.out)) hb); clear HB; have HO371 := n0_; have HB := n1_; clear n0_ n1_; (try clear hb); (try clear hb2); (try clear hk); (try clear hi); (try clear ho0)) | (go_at_call 15; (with_reducible refine (r06_Patch.calls kj7 _ _ l0 _ _ l1 _ _ l2 t372 t373 _ ?side1 ?side2 ?side3 ?side4 ?side5 ?side6 A14.out).mono ?_); (case side1 => repeat (first | exact (Kd.C_below HR0.out HB.out) | (with_reducible refine Kd.C_alloc ?_ _) | (with_reducible refine Kd.C_drewN ?_ _) | (with_reducible refine Kd.C_drew ?_))); (case side2 => exact HC0.out); (case side3 => repeat (first | exact (Kd.C_below HR1.out HB.out) | (with_reducible refine Kd.C_alloc ?_ _) | (with_reducible refine Kd.C_drewN ?_ _) | (with_reducible refine Kd.C_drew ?_))); (case side4 => exact HC1.out); (case side5 => repeat (first | exact (Kd.C_below HR2.out HB.out) | (with_reducible refine Kd.C_alloc ?_ _) | (with_reducible refine Kd.C_drewN ?_ _) | (with_reducible refine Kd.C_drew ?_))); (case side6 => exact HC2.out); rintro e w18 ⟨v374, rfl, ho0, hb⟩; have n0_ := Zm (Kd.R_elder' (by (with_reducible repeat (first | apply Kd.R_alloc | apply Kd.R_drewN | apply Kd.R_drew)); exact HO371.out) (Kd.R_base ho0) hb); have n1_ := Zm (Kd.R_lower (Kd.R_new' ho0 (Kd.R_lt (by (with_reducible repeat (first | apply Kd.R_alloc | apply Kd.R_drewN | apply Kd.R_drew)); exact HO371.out))) (below_size (by repeat (first | (with_reducible first | exact HB.out | apply below_alloc | apply Zd | apply below_drew1) | exact HB.out)))); have n2_ := Zm (below_step (by repeat (first | (with_reducible first | exact HB.out | apply below_alloc | apply Zd | apply below_drew1) | exact HB.out)) hb); clear HO371; clear HB; have HO371 := n0_; have HO375 := n1_; have HB := n2_; clear n0_ n1_ n2_; (try clear hb); (try clear hb2); (try clear hk); (try clear hi); (try clear ho0)) | (go_at_call 16; (with_reducible refine (r06_May.calls kj7 _ _ l1 (l0.length : Int) (l2.length : Int) t376 _ ?side1 ?side2 A15.out).mono ?_); (case side1 => repeat (first | exact (Kd.C_below HR1.out HB.out) | (with_reducible refine Kd.C_alloc ?_ _) | (with_reducible refine Kd.C_drewN ?_ _) | (with_reducible refine Kd.C_drew ?_))); (case side2 => exact HC1.out); rintro e w19 ⟨rfl, hb⟩; have n0_ := Zm (Kd.R_below (by (with_reducible repeat (first | apply Kd.R_alloc | apply Kd.R_drewN | apply Kd.R_drew)); exact HO371.out) hb); have n1_ := Zm (Kd.R_below (by (with_reducible repeat (first | apply Kd.R_alloc | apply Kd.R_drewN | apply Kd.R_drew)); exact HO375.out) hb); have n2_ := Zm (below_step (by repeat (first | (with_reducible first | exact HB.out | apply below_alloc | apply Zd | apply below_drew1) | exact HB.out)) hb); clear HO371; clear HO375; clear HB; have HO371 := n0_; have HO375 := n1_; have HB := n2_; clear n0_ n1_ n2_; (try clear hb); (try clear hb2); (try clear hk); (try clear hi)))
     repeat (go_quiet (first | (go_at_call 14; (with_reducible refine (hunk_Patch.calls kj7 _ _ l0 _ _ l1 _ _ l2 t368 t369 _ ?side1 ?side2 ?side3 ?side4 ?side5 ?side6 A13.out).mono ?_); (case side1 => repeat (first | exact (Kd.C_below HR0.out HB.out) | (with_reducible refine Kd.C_alloc ?_ _) | (with_reducible refine Kd.C_drewN ?_ _) | (with_reducible refine Kd.C_drew ?_))); (case side2 => exact HC0.out); (case side3 => repeat (first | exact (Kd.C_below HR1.out HB.out) | (with_reducible refine Kd.C_alloc ?_ _) | (with_reducible refine Kd.C_drewN ?_ _) | (with_reducible refine Kd.C_drew ?_))); (case side4 => exact HC1.out); (case side5 => repeat (first | exact (Kd.C_below HR2.out HB.out) | (with_reducible refine Kd.C_alloc ?_ _) | (with_reducible refine Kd.C_drewN ?_ _) | (with_reducible refine Kd.C_drew ?_))); (case side6 => exact HC2.out); rintro e w17 ⟨v370, rfl, ho0, hb⟩; have n0_ := Zm (Kd.R_lower ho0 (below_size (by repeat (first | (with_reducible first | exact HB.out | apply below_alloc | apply Zd | apply below_drew1) | exact HB.out)))); have n1_ := Zm (below_step (by repeat (first | (with_reducible first | exact HB.out | apply below_alloc | apply Zd | apply below_drew1) | exact HB.out)) hb); clear HB; have HO371 := n0_; have HB := n1_; clear n0_ n1_; (try clear hb); (try clear hb2); (try clear hk); (try clear hi); (try clear ho0)) | (go_at_call 15; (with_reducible refine (r06_Patch.calls kj7 _ _ l0 _ _ l1 _ _ l2 t372 t373 _ ?side1 ?side2 ?side3 ?side4 ?side5 ?side6 A14.out).mono ?_); (case side1 => repeat (first | exact (Kd.C_below HR0.out HB.out) | (with_reducible refine Kd.C_alloc ?_ _) | (with_reducible refine Kd.C_drewN ?_ _) | (with_reducible refine Kd.C_drew ?_))); (case side2 => exact HC0.out); (case side3 => repeat (first | exact (Kd.C_below HR1.out HB.out) | (with_reducible refine Kd.C_alloc ?_ _) | (with_reducible refine Kd.C_drewN ?_ _) | (with_reducible refine Kd.C_drew ?_))); (case side4 => exact HC1.out); (case side5 => repeat (first | exact (Kd.C_below HR2.out HB.out) | (with_reducible refine Kd.C_alloc ?_ _) | (with_reducible refine Kd.C_drewN ?_ _) | (with_reducible refine Kd.C_drew ?_))); (case side6 => exact HC2.out); rintro e w18 ⟨v374, rfl, ho0, hb⟩; have n0_ := Zm (Kd.R_elder' (by (with_reducible repeat (first | apply Kd.R_alloc | apply Kd.R_drewN | apply Kd.R_drew)); exact HO371.out) (Kd.R_base ho0) hb); have n1_ := Zm (Kd.R_lower (Kd.R_new' ho0 (Kd.R_lt (by (with_reducible repeat (first | apply Kd.R_alloc | apply Kd.R_drewN | apply Kd.R_drew)); exact HO371.out))) (below_size (by repeat (first | (with_reducible first | exact HB.out | apply below_alloc | apply Zd | apply below_drew1) | exact HB.out)))); have n2_ := Zm (below_step (by repeat (first | (with_reducible first | exact HB.out | apply below_alloc | apply Zd | apply below_drew1) | exact HB.out)) hb); clear HO371; clear HB; have HO371 := n0_; have HO375 := n1_; have HB := n2_; clear n0_ n1_ n2_; (try clear hb); (try clear hb2); (try clear hk); (try clear hi); (try clear ho0)) | (go_at_call 16; (with_reducible refine (r06_May.calls kj7 _ _ l1 (l0.length : Int) (l2.length : Int) t376 _ ?side1 ?side2 A15.out).mono ?_); (case side1 => repeat (first | exact (Kd.C_below HR1.out HB.out) | (with_reducible refine Kd.C_alloc ?_ _) | (with_reducible refine Kd.C_drewN ?_ _) | (with_reducible refine Kd.C_drew ?_))); (case side2 => exact HC1.out); rintro e w19 ⟨rfl, hb⟩; have n0_ := Zm (Kd.R_below (by (with_reducible repeat (first | apply Kd.R_alloc | apply Kd.R_drewN | apply Kd.R_drew)); exact HO371.out) hb); have n1_ := Zm (Kd.R_below (by (with_reducible repeat (first | apply Kd.R_alloc | apply Kd.R_drewN | apply Kd.R_drew)); exact HO375.out) hb); have n2_ := Zm (below_step (by repeat (first | (with_reducible first | exact HB.out | apply below_alloc | apply Zd | apply below_drew1) | exact HB.out)) hb); clear HO371; clear HO375; clear HB; have HO371 := n0_; have HO375 := n1_; have HB := n2_; clear n0_ n1_ n2_; (try clear hb); (try clear hb2); (try clear hk); (try clear hi))); go_upto_region 11 with (first | (go_at_call 14; (with_reducible refine (hunk_Patch.calls kj7 _ _ l0 _ _ l1 _ _ l2 t368 t369 _ ?side1 ?side2 ?side3 ?side4 ?side5 ?side6 A13.out).mono ?_); (case side1 => repeat (first | exact (Kd.C_below HR0.out HB.out) | (with_reducible refine Kd.C_alloc ?_ _) | (with_reducible refine Kd.C_drewN ?_ _) | (with_reducible refine Kd.C_drew ?_))); (case side2 => exact HC0.out); (case side3 => repeat (first | exact (Kd.C_below HR1.out HB.out) | (with_reducible refine Kd.C_alloc ?_ _) | (with_reducible refine Kd.C_drewN ?_ _) | (with_reducible refine Kd.C_drew ?_))); (case side4 => exact HC1.out); (case side5 => repeat (first | exact (Kd.C_below HR2.out HB.out) | (with_reducible refine Kd.C_alloc ?_ _) | (with_reducible refine Kd.C_drewN ?_ _) | (with_reducible refine Kd.C_drew ?_))); (case side6 => exact HC2.out); rintro e w17 ⟨v370, rfl, ho0, hb⟩; have n0_ := Zm (Kd.R_lower ho0 (below_size (by repeat (first | (with_reducible first | exact HB.out | apply below_alloc | apply Zd | apply below_drew1) | exact HB.out)))); have n1_ := Zm (below_step (by repeat (first | (with_reducible first | exact HB.out | apply below_alloc | apply Zd | apply below_drew1) | exact HB.out)) hb); clear HB; have HO371 := n0_; have HB := n1_; clear n0_ n1_; (try clear hb); (try clear hb2); (try clear hk); (try clear hi); (try clear ho0)) | (go_at_call 15; (with_reducible refine (r06_Patch.calls kj7 _ _ l0 _ _ l1 _ _ l2 t372 t373 _ ?side1 ?side2 ?side3 ?side4 ?side5 ?side6 A14.out).mono ?_); (case side1 => repeat (first | exact (Kd.C_below HR0.out HB.out) | (with_reducible refine Kd.C_alloc ?_ _) | (with_reducible refine Kd.C_drewN ?_ _) | (with_reducible refine Kd.C_drew ?_))); (case side2 => exact HC0.out); (case side3 => repeat (first | exact (Kd.C_below HR1.out HB.out) | (with_reducible refine Kd.C_alloc ?_ _) | (with_reducible refine Kd.C_drewN ?_ _) | (with_reducible refine Kd.C_drew ?_))); (case side4 => exact HC1.out); (case side5 => repeat (first | exact (Kd.C_below HR2.out HB.out) | (with_reducible refine Kd.C_alloc ?_ _) | (with_reducible refine Kd.C_drewN ?_ _) | (with_reducible refine Kd.C_drew ?_))); (case side6 => exact HC2.out); rintro e w18 ⟨v374, rfl, ho0, hb⟩; have n0_ := Zm (Kd.R_elder' (by (with_reducible repeat (first | apply Kd.R_alloc | apply Kd.R_drewN | apply Kd.R_drew)); exact HO371.out) (Kd.R_base ho0) hb); have n1_ := Zm (Kd.R_lower (Kd.R_new' ho0 (Kd.R_lt (by (with_reducible repeat (first | apply Kd.R_alloc | apply Kd.R_drewN | apply Kd.R_drew)); exact HO371.out))) (below_size (by repeat (first | (with_reducible first | exact HB.out | apply below_alloc | apply Zd | apply below_drew1) | exact HB.out)))); have n2_ := Zm (below_step (by repeat (first | (with_reducible first | exact HB.out | apply below_alloc | apply Zd | apply below_drew1) | exact HB.out)) hb); clear HO371; clear HB; have HO371 := n0_; have HO375 := n1_; have HB := n2_; clear n0_ n1_ n2_; (try clear hb); (try clear hb2); (try clear hk); (try clear hi); (try clear ho0)) | (go_at_call 16; (with_reducible refine (r06_May.calls kj7 _ _ l1 (l0.length : Int) (l2.length : Int) t376 _ ?side1 ?side2 A15.out).mono ?_); (case side1 => repeat (first | exact (Kd.C_below HR1.out HB.out) | (with_reducible refine Kd.C_alloc ?_ _) | (with_reducible refine Kd.C_drewN ?_ _) | (with_reducible refine Kd.C_drew ?_))); (case side2 => exact HC1.out); rintro e w19 ⟨rfl, hb⟩; have n0_ := Zm (Kd.R_below (by (with_reducible repeat (first | apply Kd.R_alloc | apply Kd.R_drewN | apply Kd.R_drew)); exact HO371.out) hb); have n1_ := Zm (Kd.R_below (by (with_reducible repeat (first | apply Kd.R_alloc | apply Kd.R_drewN | apply Kd.R_drew)); exact HO375.out) hb); have n2_ := Zm (below_step (by repeat (first | (with_reducible first | exact HB.out | apply below_alloc | apply Zd | apply below_drew1) | exact HB.out)) hb); clear HO371; clear HO375; clear HB; have HO371 := n0_; have HO375 := n1_; have HB := n2_; clear n0_ n1_ n2_; (try clear hb); (try clear hb2); (try clear hk); (try clear hi))))
     (try simp only [Act.put, List.setIfInBounds_toArray, List.set_cons_zero, List.set_cons_succ])
     go_cut [82] (fun v82 wc => ∃ (kq : Nat) (x82_15 : Bool), v82 = .bool x82_15 ∧ Aside0 (l06_HunkPatches.j1 kq l1 t376 x82_15 = some r) ∧ Aside0 (kq ≤ kj7) ∧ Aside0 (Below w.heap.size w wc))
     case first =>
      have H := HC16.out
      clear HC16
      replace H := Option.bind_eq_some_iff.mp H
      obtain ⟨t377, A200, H⟩ := H
      replace H : (if ((t377 == 0) != t376) = true then (l06_HunkPatches.j1 kj7 l1 t376 true) else (if t369 = t373 then ((r01_Same.f kj7 t368 t372).bind fun t378 => (if t378 = true then ((hunk_Invert.f kj7 l1).bind fun t379 => ((r06_Invert.f kj7 l1).bind fun t382 => ((r06_Same.f kj7 t379 t382).bind fun t385 => (l06_HunkPatches.j1 kj7 l1 t376 (!t385))))) else (l06_HunkPatches.j1 kj7 l1 t376 true))) else (l06_HunkPatches.j1 kj7 l1 t376 true))) = some r := H
      have A20 := Zm A200
      clear A200
      by_cases c21 : ((t377 == 0) != t376) = true
      ·rw [if_pos c21] at H
       have c21b0 : ((t377 == 0) != t376) = true := c21
       (try (have c21b1 : decide ((t377 == 0) = t376) = false := by simpa using c21))
       (try (have c21b2 : ((t377 == 0) == t376) = false := by simpa using c21))
       (try (have c21b3 : ¬ ((t377 == 0) = t376) := by simpa using c21))
       clear c21
       (first | rw [c21b0] | (simp only [i64_w, i32_w]; rw [c21b0]) | skip)
       have H' := Zm H
       clear H
       go_wp2_with (first | (go_at_call 17; (with_reducible refine (hunk_Check.calls kj7 _ _ l1 (l0.length : Int) (l2.length : Int) t377 _ ?side1 ?side2 A20.out).mono ?_); (case side1 => repeat (first | exact (Kd.C_below HR1.out HB.out) | (with_reducible refine Kd.C_alloc ?_ _) | (with_reducible refine Kd.C_drewN ?_ _) | (with_reducible refine Kd.C_drew ?_))); (case side2 => exact HC1.out); rintro e w22 ⟨rfl, hb⟩; have n0_ := Zm (Kd.R_below (by (with_reducible repeat (first | apply Kd.R_alloc | apply Kd.R_drewN | apply Kd.R_drew)); exact HO371.out) hb); have n1_ := Zm (Kd.R_below (by (with_reducible repeat (first | apply Kd.R_alloc | apply Kd.R_drewN | apply Kd.R_drew)); exact HO375.out) hb); have n2_ := Zm (below_step (by repeat (first | (with_reducible first | exact HB.out | apply below_alloc | apply Zd | apply below_drew1) | exact HB.out)) hb); clear HO371; clear HO375; clear HB; have HO371 := n0_; have HO375 := n1_; have HB := n2_; clear n0_ n1_ n2_; (try clear hb); (try clear hb2); (try clear hk); (try clear hi)))
       repeat (go_quiet (first | (go_at_call 17; (with_reducible refine (hunk_Check.calls kj7 _ _ l1 (l0.length : Int) (l2.length : Int) t377 _ ?side1 ?side2 A20.out).mono ?_); (case side1 => repeat (first | exact (Kd.C_below HR1.out HB.out) | (with_reducible refine Kd.C_alloc ?_ _) | (with_reducible refine Kd.C_drewN ?_ _) | (with_reducible refine Kd.C_drew ?_))); (case side2 => exact HC1.out); rintro e w22 ⟨rfl, hb⟩; have n0_ := Zm (Kd.R_below (by (with_reducible repeat (first | apply Kd.R_alloc | apply Kd.R_drewN | apply Kd.R_drew)); exact HO371.out) hb); have n1_ := Zm (Kd.R_below (by (with_reducible repeat (first | apply Kd.R_alloc | apply Kd.R_drewN | apply Kd.R_drew)); exact HO375.out) hb); have n2_ := Zm (below_step (by repeat (first | (with_reducible first | exact HB.out | apply below_alloc | apply Zd | apply below_drew1) | exact HB.out)) hb); clear HO371; clear HO375; clear HB; have HO371 := n0_; have HO375 := n1_; have HB := n2_; clear n0_ n1_ n2_; (try clear hb); (try clear hb2); (try clear hk); (try clear hi))); try go_wp2_with (first | (go_at_call 17; (with_reducible refine (hunk_Check.calls kj7 _ _ l1 (l0.length : Int) (l2.length : Int) t377 _ ?side1 ?side2 A20.out).mono ?_); (case side1 => repeat (first | exact (Kd.C_below HR1.out HB.out) | (with_reducible refine Kd.C_alloc ?_ _) | (with_reducible refine Kd.C_drewN ?_ _) | (with_reducible refine Kd.C_drew ?_))); (case side2 => exact HC1.out); rintro e w22 ⟨rfl, hb⟩; have n0_ := Zm (Kd.R_below (by (with_reducible repeat (first | apply Kd.R_alloc | apply Kd.R_drewN | apply Kd.R_drew)); exact HO371.out) hb); have n1_ := Zm (Kd.R_below (by (with_reducible repeat (first | apply Kd.R_alloc | apply Kd.R_drewN | apply Kd.R_drew)); exact HO375.out) hb); have n2_ := Zm (below_step (by repeat (first | (with_reducible first | exact HB.out | apply below_alloc | apply Zd | apply below_drew1) | exact HB.out)) hb); clear HO371; clear HO375; clear HB; have HO371 := n0_; have HO375 := n1_; have HB := n2_; clear n0_ n1_ n2_; (try clear hb); (try clear hb2); (try clear hk); (try clear hi))))
       go_meet
       case rel => exact ⟨_, (true), (by first | rfl | (simp; done) | (simp [*]; done)), H', ⟨by have := HJ7.out; first | omega | exact Nat.le_refl _⟩, ⟨by repeat (first | (with_reducible first | exact HB.out | apply below_alloc | apply Zd | apply below_drew1) | exact HB.out)⟩⟩
      ·rw [if_neg c21] at H
       have c21b0 : ((t377 == 0) != t376) = false := by simpa using c21
       (try (have c21b1 : decide ((t377 == 0) = t376) = true := by simpa using c21))
       (try (have c21b2 : ((t377 == 0) == t376) = true := by simpa using c21))
       clear c21
       (first | rw [c21b0] | (simp only [i64_w, i32_w]; rw [c21b0]) | skip)
       by_cases c23 : t369 = t373
       ·rw [if_pos c23] at H
        have c23b0 : (t369 == t373) = true := beq_iff_eq.mpr c23
        have c23b1 : (t369 != t373) = false := bne_eq_false_iff_eq.mpr c23
        clear c23
        replace H := Option.bind_eq_some_iff.mp H
        obtain ⟨t378, A240, H⟩ := H
        replace H : (if t378 = true then ((hunk_Invert.f kj7 l1).bind fun t379 => ((r06_Invert.f kj7 l1).bind fun t382 => ((r06_Same.f kj7 t379 t382).bind fun t385 => (l06_HunkPatches.j1 kj7 l1 t376 (!t385))))) else (l06_HunkPatches.j1 kj7 l1 t376 true)) = some r := H
        have A24 := Zm A240
        clear A240
        by_cases c25 : t378 = true
        ·subst c25
         have H1 : ((hunk_Invert.f kj7 l1).bind fun t379 => ((r06_Invert.f kj7 l1).bind fun t382 => ((r06_Same.f kj7 t379 t382).bind fun t385 => (l06_HunkPatches.j1 kj7 l1 t376 (!t385))))) = some r := by rw [if_pos rfl] at H; exact H
         clear H
         have H := H1
         clear H1
         replace H := Option.bind_eq_some_iff.mp H
         obtain ⟨t379, A260, H⟩ := H
         replace H : ((r06_Invert.f kj7 l1).bind fun t382 => ((r06_Same.f kj7 t379 t382).bind fun t385 => (l06_HunkPatches.j1 kj7 l1 t376 (!t385)))) = some r := H
         have A26 := Zm A260
         clear A260
         replace H := Option.bind_eq_some_iff.mp H
         obtain ⟨t382, A270, H⟩ := H
         replace H : ((r06_Same.f kj7 t379 t382).bind fun t385 => (l06_HunkPatches.j1 kj7 l1 t376 (!t385))) = some r := H
         have A27 := Zm A270
         clear A270
         replace H := Option.bind_eq_some_iff.mp H
         obtain ⟨t385, A280, H⟩ := H
         replace H : (l06_HunkPatches.j1 kj7 l1 t376 (!t385)) = some r := H
         have A28 := Zm A280
         clear A280
         have H' := Zm H
         clear H
         go_wp2_with (first | (go_at_call 17; (with_reducible refine (hunk_Check.calls kj7 _ _ l1 (l0.length : Int) (l2.length : Int) t377 _ ?side1 ?side2 A20.out).mono ?_); (case side1 => repeat (first | exact (Kd.C_below HR1.out HB.out) | (with_reducible refine Kd.C_alloc ?_ _) | (with_reducible refine Kd.C_drewN ?_ _) | (with_reducible refine Kd.C_drew ?_))); (case side2 => exact HC1.out); rintro e w29 ⟨rfl, hb⟩; have n0_ := Zm (Kd.R_below (by (with_reducible repeat (first | apply Kd.R_alloc | apply Kd.R_drewN | apply Kd.R_drew)); exact HO371.out) hb); have n1_ := Zm (Kd.R_below (by (with_reducible repeat (first | apply Kd.R_alloc | apply Kd.R_drewN | apply Kd.R_drew)); exact HO375.out) hb); have n2_ := Zm (below_step (by repeat (first | (with_reducible first | exact HB.out | apply below_alloc | apply Zd | apply below_drew1) | exact HB.out)) hb); clear HO371; clear HO375; clear HB; have HO371 := n0_; have HO375 := n1_; have HB := n2_; clear n0_ n1_ n2_; (try clear hb); (try clear hb2); (try clear hk); (try clear hi); obtain ⟨Ao30, co30, eo30⟩ := Kd.R_slice HO371.out; subst eo30; obtain ⟨Ao31, co31, eo31⟩ := Kd.R_slice HO375.out; subst eo31) | (go_at_call 18; (with_reducible refine (r01_Same.calls kj7 _ _ t368 _ _ t372 true _ ?side1 ?side2 ?side3 ?side4 A24.out).mono ?_); (case side1 => repeat (first | exact (Kd.R_reads' HO371.out).2.2 | (with_reducible refine Kd.C_alloc ?_ _) | (with_reducible refine Kd.C_drewN ?_ _) | (with_reducible refine Kd.C_drew ?_))); (case side2 => exact (Kd.R_reads' HO371.out).2.1); (case side3 => repeat (first | exact (Kd.R_reads' HO375.out).2.2 | (with_reducible refine Kd.C_alloc ?_ _) | (with_reducible refine Kd.C_drewN ?_ _) | (with_reducible refine Kd.C_drew ?_))); (case side4 => exact (Kd.R_reads' HO375.out).2.1); rintro e w' ⟨rfl, ⟨nd, rfl⟩⟩; (try first | exact ⟨rfl, _, World.drewN_drewN _ _ _⟩ | exact ⟨rfl, _, Eq.trans (World.drewN_drewN _ _ _) (congrArg (World.drewN _) (Nat.add_assoc _ _ _))⟩)) | (go_at_call 19; (with_reducible refine (hunk_Invert.calls kj7 _ _ l1 t379 _ ?side1 ?side2 A26.out).mono ?_); (case side1 => repeat (first | exact (Kd.C_below HR1.out (by repeat (first | (with_reducible first | exact HB.out | apply below_alloc | apply Zd | apply below_drew1) | exact HB.out))) | (with_reducible refine Kd.C_alloc ?_ _) | (with_reducible refine Kd.C_drewN ?_ _) | (with_reducible refine Kd.C_drew ?_))); (case side2 => exact HC1.out); rintro e w32 ⟨v380, rfl, ho0, hb⟩; have n0_ := Zm (Kd.R_below (by (with_reducible repeat (first | apply Kd.R_alloc | apply Kd.R_drewN | apply Kd.R_drew)); exact HO371.out) hb); have n1_ := Zm (Kd.R_below (by (with_reducible repeat (first | apply Kd.R_alloc | apply Kd.R_drewN | apply Kd.R_drew)); exact HO375.out) hb); have n2_ := Zm (Kd.R_lower ho0 (below_size (by repeat (first | (with_reducible first | exact HB.out | apply below_alloc | apply Zd | apply below_drew1) | exact HB.out)))); have n3_ := Zm (below_step (by repeat (first | (with_reducible first | exact HB.out | apply below_alloc | apply Zd | apply below_drew1) | exact HB.out)) hb); clear HO371; clear HO375; clear HB; have HO371 := n0_; have HO375 := n1_; have HO381 := n2_; have HB := n3_; clear n0_ n1_ n2_ n3_; (try clear hb); (try clear hb2); (try clear hk); (try clear hi); (try clear ho0)) | (go_at_call 20; (with_reducible refine (r06_Invert.calls kj7 _ _ l1 t382 _ ?side1 ?side2 A27.out).mono ?_); (case side1 => repeat (first | exact (Kd.C_below HR1.out HB.out) | (with_reducible refine Kd.C_alloc ?_ _) | (with_reducible refine Kd.C_drewN ?_ _) | (with_reducible refine Kd.C_drew ?_))); (case side2 => exact HC1.out); rintro e w33 ⟨v383, rfl, ho0, hb⟩; have n0_ := Zm (Kd.R_below (by (with_reducible repeat (first | apply Kd.R_alloc | apply Kd.R_drewN | apply Kd.R_drew)); exact HO371.out) hb); have n1_ := Zm (Kd.R_below (by (with_reducible repeat (first | apply Kd.R_alloc | apply Kd.R_drewN | apply Kd.R_drew)); exact HO375.out) hb); have n2_ := Zm (Kd.R_elder' (by (with_reducible repeat (first | apply Kd.R_alloc | apply Kd.R_drewN | apply Kd.R_drew)); exact HO381.out) (Kd.R_base ho0) hb); have n3_ := Zm (Kd.R_lower (Kd.R_new' ho0 (Kd.R_lt (by (with_reducible repeat (first | apply Kd.R_alloc | apply Kd.R_drewN | apply Kd.R_drew)); exact HO381.out))) (below_size (by repeat (first | (with_reducible first | exact HB.out | apply below_alloc | apply Zd | apply below_drew1) | exact HB.out)))); have n4_ := Zm (below_step (by repeat (first | (with_reducible first | exact HB.out | apply below_alloc | apply Zd | apply below_drew1) | exact HB.out)) hb); clear HO371; clear HO375; clear HO381; clear HB; have HO371 := n0_; have HO375 := n1_; have HO381 := n2_; have HO384 := n3_; have HB := n4_; clear n0_ n1_ n2_ n3_ n4_; (try clear hb); (try clear hb2); (try clear hk); (try clear hi); (try clear ho0); obtain ⟨Ao34, co34, eo34⟩ := Kd.R_slice HO381.out; subst eo34; obtain ⟨Ao35, co35, eo35⟩ := Kd.R_slice HO384.out; subst eo35) | (go_at_call 8; (with_reducible refine (r06_Same.calls kj7 _ _ t379 _ _ t382 t385 _ ?side1 ?side2 ?side3 ?side4 A28.out).mono ?_); (case side1 => repeat (first | exact (Kd.R_reads' HO381.out).2.2 | (with_reducible refine Kd.C_alloc ?_ _) | (with_reducible refine Kd.C_drewN ?_ _) | (with_reducible refine Kd.C_drew ?_))); (case side2 => exact (Kd.R_reads' HO381.out).2.1); (case side3 => repeat (first | exact (Kd.R_reads' HO384.out).2.2 | (with_reducible refine Kd.C_alloc ?_ _) | (with_reducible refine Kd.C_drewN ?_ _) | (with_reducible refine Kd.C_drew ?_))); (case side4 => exact (Kd.R_reads' HO384.out).2.1); rintro e w' ⟨rfl, ⟨nd, rfl⟩⟩; (try first | exact ⟨rfl, _, World.drewN_drewN _ _ _⟩ | exact ⟨rfl, _, Eq.trans (World.drewN_drewN _ _ _) (congrArg (World.drewN _) (Nat.add_assoc _ _ _))⟩)))
         repeat (go_quiet (first | (go_at_call 17; (with_reducible refine (hunk_Check.calls kj7 _ _ l1 (l0.length : Int) (l2.length : Int) t377 _ ?side1 ?side2 A20.out).mono ?_); (case side1 => repeat (first | exact (Kd.C_below HR1.out HB.out) | (with_reducible refine Kd.C_alloc ?_ _) | (with_reducible refine Kd.C_drewN ?_ _) | (with_reducible refine Kd.C_drew ?_))); (case side2 => exact HC1.out); rintro e w29 ⟨rfl, hb⟩; have n0_ := Zm (Kd.R_below (by (with_reducible repeat (first | apply Kd.R_alloc | apply Kd.R_drewN | apply Kd.R_drew)); exact HO371.out) hb); have n1_ := Zm (Kd.R_below (by (with_reducible repeat (first | apply Kd.R_alloc | apply Kd.R_drewN | apply Kd.R_drew)); exact HO375.out) hb); have n2_ := Zm (below_step (by repeat (first | (with_reducible first | exact HB.out | apply below_alloc | apply Zd | apply below_drew1) | exact HB.out)) hb); clear HO371; clear HO375; clear HB; have HO371 := n0_; have HO375 := n1_; have HB := n2_; clear n0_ n1_ n2_; (try clear hb); (try clear hb2); (try clear hk); (try clear hi); obtain ⟨Ao30, co30, eo30⟩ := Kd.R_slice HO371.out; subst eo30; obtain ⟨Ao31, co31, eo31⟩ := Kd.R_slice HO375.out; subst eo31) | (go_at_call 18; (with_reducible refine (r01_Same.calls kj7 _ _ t368 _ _ t372 true _ ?side1 ?side2 ?side3 ?side4 A24.out).mono ?_); (case side1 => repeat (first | exact (Kd.R_reads' HO371.out).2.2 | (with_reducible refine Kd.C_alloc ?_ _) | (with_reducible refine Kd.C_drewN ?_ _) | (with_reducible refine Kd.C_drew ?_))); (case side2 => exact (Kd.R_reads' HO371.out).2.1); (case side3 => repeat (first | exact (Kd.R_reads' HO375.out).2.2 | (with_reducible refine Kd.C_alloc ?_ _) | (with_reducible refine Kd.C_drewN ?_ _) | (with_reducible refine Kd.C_drew ?_))); (case side4 => exact (Kd.R_reads' HO375.out).2.1); rintro e w' ⟨rfl, ⟨nd, rfl⟩⟩; (try first | exact ⟨rfl, _, World.drewN_drewN _ _ _⟩ | exact ⟨rfl, _, Eq.trans (World.drewN_drewN _ _ _) (congrArg (World.drewN _) (Nat.add_assoc _ _ _))⟩)) | (go_at_call 19; (with_reducible refine (hunk_Invert.calls kj7 _ _ l1 t379 _ ?side1 ?side2 A26.out).mono ?_); (case side1 => repeat (first | exact (Kd.C_below HR1.out (by repeat (first | (with_reducible first | exact HB.out | apply below_alloc | apply Zd | apply below_drew1) | exact HB.out))) | (with_reducible refine Kd.C_alloc ?_ _) | (with_reducible refine Kd.C_drewN ?_ _) | (with_reducible refine Kd.C_drew ?_))); (case side2 => exact HC1.out); rintro e w32 ⟨v380, rfl, ho0, hb⟩; have n0_ := Zm (Kd.R_below (by (with_reducible repeat (first | apply Kd.R_alloc | apply Kd.R_drewN | apply Kd.R_drew)); exact HO371.out) hb); have n1_ := Zm (Kd.R_below (by (with_reducible repeat (first | apply Kd.R_alloc | apply Kd.R_drewN | apply Kd.R_drew)); exact HO375.out) hb); have n2_ := Zm (Kd.R_lower ho0 (below_size (by repeat (first | (with_reducible first | exact HB.out | apply below_alloc | apply Zd | apply below_drew1) | exact HB.out)))); have n3_ := Zm (below_step (by repeat (first | (with_reducible first | exact HB.out | apply below_alloc | apply Zd | apply below_drew1) | exact HB.out)) hb); clear HO371; clear HO375; clear HB; have HO371 := n0_; have HO375 := n1_; have HO381 := n2_; have HB := n3_; clear n0_ n1_ n2_ n3_; (try clear hb); (try clear hb2); (try clear hk); (try clear hi); (try clear ho0)) | (go_at_call 20; (with_reducible refine (r06_Invert.calls kj7 _ _ l1 t382 _ ?side1 ?side2 A27.out).mono ?_); (case side1 => repeat (first | exact (Kd.C_below HR1.out HB.out) | (with_reducible refine Kd.C_alloc ?_ _) | (with_reducible refine Kd.C_drewN ?_ _) | (with_reducible refine Kd.C_drew ?_))); (case side2 => exact HC1.out); rintro e w33 ⟨v383, rfl, ho0, hb⟩; have n0_ := Zm (Kd.R_below (by (with_reducible repeat (first | apply Kd.R_alloc | apply Kd.R_drewN | apply Kd.R_drew)); exact HO371.out) hb); have n1_ := Zm (Kd.R_below (by (with_reducible repeat (first | apply Kd.R_alloc | apply Kd.R_drewN | apply Kd.R_drew)); exact HO375.out) hb); have n2_ := Zm (Kd.R_elder' (by (with_reducible repeat (first | apply Kd.R_alloc | apply Kd.R_drewN | apply Kd.R_drew)); exact HO381.out) (Kd.R_base ho0) hb); have n3_ := Zm (Kd.R_lower (Kd.R_new' ho0 (Kd.R_lt (by (with_reducible repeat (first | apply Kd.R_alloc | apply Kd.R_drewN | apply Kd.R_drew)); exact HO381.out))) (below_size (by repeat (first | (with_reducible first | exact HB.out | apply below_alloc | apply Zd | apply below_drew1) | exact HB.out)))); have n4_ := Zm (below_step (by repeat (first | (with_reducible first | exact HB.out | apply below_alloc | apply Zd | apply below_drew1) | exact HB.out)) hb); clear HO371; clear HO375; clear HO381; clear HB; have HO371 := n0_; have HO375 := n1_; have HO381 := n2_; have HO384 := n3_; have HB := n4_; clear n0_ n1_ n2_ n3_ n4_; (try clear hb); (try clear hb2); (try clear hk); (try clear hi); (try clear ho0); obtain ⟨Ao34, co34, eo34⟩ := Kd.R_slice HO381.out; subst eo34; obtain ⟨Ao35, co35, eo35⟩ := Kd.R_slice HO384.out; subst eo35) | (go_at_call 8; (with_reducible refine (r06_Same.calls kj7 _ _ t379 _ _ t382 t385 _ ?side1 ?side2 ?side3 ?side4 A28.out).mono ?_); (case side1 => repeat (first | exact (Kd.R_reads' HO381.out).2.2 | (with_reducible refine Kd.C_alloc ?_ _) | (with_reducible refine Kd.C_drewN ?_ _) | (with_reducible refine Kd.C_drew ?_))); (case side2 => exact (Kd.R_reads' HO381.out).2.1); (case side3 => repeat (first | exact (Kd.R_reads' HO384.out).2.2 | (with_reducible refine Kd.C_alloc ?_ _) | (with_reducible refine Kd.C_drewN ?_ _) | (with_reducible refine Kd.C_drew ?_))); (case side4 => exact (Kd.R_reads' HO384.out).2.1); rintro e w' ⟨rfl, ⟨nd, rfl⟩⟩; (try first | exact ⟨rfl, _, World.drewN_drewN _ _ _⟩ | exact ⟨rfl, _, Eq.trans (World.drewN_drewN _ _ _) (congrArg (World.drewN _) (Nat.add_assoc _ _ _))⟩))); try go_wp2_with (first | (go_at_call 17; (with_reducible refine (hunk_Check.calls kj7 _ _ l1 (l0.length : Int) (l2.length : Int) t377 _ ?side1 ?side2 A20.out).mono ?_); (case side1 => repeat (first | exact (Kd.C_below HR1.out HB.out) | (with_reducible refine Kd.C_alloc ?_ _) | (with_reducible refine Kd.C_drewN ?_ _) | (with_reducible refine Kd.C_drew ?_))); (case side2 => exact HC1.out); rintro e w29 ⟨rfl, hb⟩; have n0_ := Zm (Kd.R_below (by (with_reducible repeat (first | apply Kd.R_alloc | apply Kd.R_drewN | apply Kd.R_drew)); exact HO371.out) hb); have n1_ := Zm (Kd.R_below (by (with_reducible repeat (first | apply Kd.R_alloc | apply Kd.R_drewN | apply Kd.R_drew)); exact HO375.out) hb); have n2_ := Zm (below_step (by repeat (first | (with_reducible first | exact HB.out | apply below_alloc | apply Zd | apply below_drew1) | exact HB.out)) hb); clear HO371; clear HO375; clear HB; have HO371 := n0_; have HO375 := n1_; have HB := n2_; clear n0_ n1_ n2_; (try clear hb); (try clear hb2); (try clear hk); (try clear hi); obtain ⟨Ao30, co30, eo30⟩ := Kd.R_slice HO371.out; subst eo30; obtain ⟨Ao31, co31, eo31⟩ := Kd.R_slice HO375.out; subst eo31) | (go_at_call 18; (with_reducible refine (r01_Same.calls kj7 _ _ t368 _ _ t372 true _ ?side1 ?side2 ?side3 ?side4 A24.out).mono ?_); (case side1 => repeat (first | exact (Kd.R_reads' HO371.out).2.2 | (with_reducible refine Kd.C_alloc ?_ _) | (with_reducible refine Kd.C_drewN ?_ _) | (with_reducible refine Kd.C_drew ?_))); (case side2 => exact (Kd.R_reads' HO371.out).2.1); (case side3 => repeat (first | exact (Kd.R_reads' HO375.out).2.2 | (with_reducible refine Kd.C_alloc ?_ _) | (with_reducible refine Kd.C_drewN ?_ _) | (with_reducible refine Kd.C_drew ?_))); (case side4 => exact (Kd.R_reads' HO375.out).2.1); rintro e w' ⟨rfl, ⟨nd, rfl⟩⟩; (try first | exact ⟨rfl, _, World.drewN_drewN _ _ _⟩ | exact ⟨rfl, _, Eq.trans (World.drewN_drewN _ _ _) (congrArg (World.drewN _) (Nat.add_assoc _ _ _))⟩)) | (go_at_call 19; (with_reducible refine (hunk_Invert.calls kj7 _ _ l1 t379 _ ?side1 ?side2 A26.out).mono ?_); (case side1 => repeat (first | exact (Kd.C_below HR1.out (by repeat (first | (with_reducible first | exact HB.out | apply below_alloc | apply Zd | apply below_drew1) | exact HB.out))) | (with_reducible refine Kd.C_alloc ?_ _) | (with_reducible refine Kd.C_drewN ?_ _) | (with_reducible refine Kd.C_drew ?_))); (case side2 => exact HC1.out); rintro e w32 ⟨v380, rfl, ho0, hb⟩; have n0_ := Zm (Kd.R_below (by (with_reducible repeat (first | apply Kd.R_alloc | apply Kd.R_drewN | apply Kd.R_drew)); exact HO371.out) hb); have n1_ := Zm (Kd.R_below (by (with_reducible repeat (first | apply Kd.R_alloc | apply Kd.R_drewN | apply Kd.R_drew)); exact HO375.out) hb); have n2_ := Zm (Kd.R_lower ho0 (below_size (by repeat (first | (with_reducible first | exact HB.out | apply below_alloc | apply Zd | apply below_drew1) | exact HB.out)))); have n3_ := Zm (below_step (by repeat (first | (with_reducible first | exact HB.out | apply below_alloc | apply Zd | apply below_drew1) | exact HB.out)) hb); clear HO371; clear HO375; clear HB; have HO371 := n0_; have HO375 := n1_; have HO381 := n2_; have HB := n3_; clear n0_ n1_ n2_ n3_; (try clear hb); (try clear hb2); (try clear hk); (try clear hi); (try clear ho0)) | (go_at_call 20; (with_reducible refine (r06_Invert.calls kj7 _ _ l1 t382 _ ?side1 ?side2 A27.out).mono ?_); (case side1 => repeat (first | exact (Kd.C_below HR1.out HB.out) | (with_reducible refine Kd.C_alloc ?_ _) | (with_reducible refine Kd.C_drewN ?_ _) | (with_reducible refine Kd.C_drew ?_))); (case side2 => exact HC1.out); rintro e w33 ⟨v383, rfl, ho0, hb⟩; have n0_ := Zm (Kd.R_below (by (with_reducible repeat (first | apply Kd.R_alloc | apply Kd.R_drewN | apply Kd.R_drew)); exact HO371.out) hb); have n1_ := Zm (Kd.R_below (by (with_reducible repeat (first | apply Kd.R_alloc | apply Kd.R_drewN | apply Kd.R_drew)); exact HO375.out) hb); have n2_ := Zm (Kd.R_elder' (by (with_reducible repeat (first | apply Kd.R_alloc | apply Kd.R_drewN | apply Kd.R_drew)); exact HO381.out) (Kd.R_base ho0) hb); have n3_ := Zm (Kd.R_lower (Kd.R_new' ho0 (Kd.R_lt (by (with_reducible repeat (first | apply Kd.R_alloc | apply Kd.R_drewN | apply Kd.R_drew)); exact HO381.out))) (below_size (by repeat (first | (with_reducible first | exact HB.out | apply below_alloc | apply Zd | apply below_drew1) | exact HB.out)))); have n4_ := Zm (below_step (by repeat (first | (with_reducible first | exact HB.out | apply below_alloc | apply Zd | apply below_drew1) | exact HB.out)) hb); clear HO371; clear HO375; clear HO381; clear HB; have HO371 := n0_; have HO375 := n1_; have HO381 := n2_; have HO384 := n3_; have HB := n4_; clear n0_ n1_ n2_ n3_ n4_; (try clear hb); (try clear hb2); (try clear hk); (try clear hi); (try clear ho0); obtain ⟨Ao34, co34, eo34⟩ := Kd.R_slice HO381.out; subst eo34; obtain ⟨Ao35, co35, eo35⟩ := Kd.R_slice HO384.out; subst eo35) | (go_at_call 8; (with_reducible refine (r06_Same.calls kj7 _ _ t379 _ _ t382 t385 _ ?side1 ?side2 ?side3 ?side4 A28.out).mono ?_); (case side1 => repeat (first | exact (Kd.R_reads' HO381.out).2.2 | (with_reducible refine Kd.C_alloc ?_ _) | (with_reducible refine Kd.C_drewN ?_ _) | (with_reducible refine Kd.C_drew ?_))); (case side2 => exact (Kd.R_reads' HO381.out).2.1); (case side3 => repeat (first | exact (Kd.R_reads' HO384.out).2.2 | (with_reducible refine Kd.C_alloc ?_ _) | (with_reducible refine Kd.C_drewN ?_ _) | (with_reducible refine Kd.C_drew ?_))); (case side4 => exact (Kd.R_reads' HO384.out).2.1); rintro e w' ⟨rfl, ⟨nd, rfl⟩⟩; (try first | exact ⟨rfl, _, World.drewN_drewN _ _ _⟩ | exact ⟨rfl, _, Eq.trans (World.drewN_drewN _ _ _) (congrArg (World.drewN _) (Nat.add_assoc _ _ _))⟩))))
         go_meet
         case rel => exact ⟨_, (!t385), (by first | rfl | (simp; done) | (simp [*]; done)), H', ⟨by have := HJ7.out; first | omega | exact Nat.le_refl _⟩, ⟨by repeat (first | (with_reducible first | exact HB.out | apply below_alloc | apply Zd | apply below_drew1) | exact HB.out)⟩⟩
        ·replace c25 := Bool.eq_false_iff.mpr c25
         subst c25
         have H1 : (l06_HunkPatches.j1 kj7 l1 t376 true) = some r := by rw [if_neg (show ¬ (false = true) by decide)] at H; exact H
         clear H
         have H := H1
         clear H1
         have H' := Zm H
         clear H
         go_wp2_with (first | (go_at_call 17; (with_reducible refine (hunk_Check.calls kj7 _ _ l1 (l0.length : Int) (l2.length : Int) t377 _ ?side1 ?side2 A20.out).mono ?_); (case side1 => repeat (first | exact (Kd.C_below HR1.out HB.out) | (with_reducible refine Kd.C_alloc ?_ _) | (with_reducible refine Kd.C_drewN ?_ _) | (with_reducible refine Kd.C_drew ?_))); (case side2 => exact HC1.out); rintro e w36 ⟨rfl, hb⟩; have n0_ := Zm (Kd.R_below (by (with_reducible repeat (first | apply Kd.R_alloc | apply Kd.R_drewN | apply Kd.R_drew)); exact HO371.out) hb); have n1_ := Zm (Kd.R_below (by (with_reducible repeat (first | apply Kd.R_alloc | apply Kd.R_drewN | apply Kd.R_drew)); exact HO375.out) hb); have n2_ := Zm (below_step (by repeat (first | (with_reducible first | exact HB.out | apply below_alloc | apply Zd | apply below_drew1) | exact HB.out)) hb); clear HO371; clear HO375; clear HB; have HO371 := n0_; have HO375 := n1_; have HB := n2_; clear n0_ n1_ n2_; (try clear hb); (try clear hb2); (try clear hk); (try clear hi); obtain ⟨Ao37, co37, eo37⟩ := Kd.R_slice HO371.out; subst eo37; obtain ⟨Ao38, co38, eo38⟩ := Kd.R_slice HO375.out; subst eo38) | (go_at_call 18; (with_reducible refine (r01_Same.calls kj7 _ _ t368 _ _ t372 false _ ?side1 ?side2 ?side3 ?side4 A24.out).mono ?_); (case side1 => repeat (first | exact (Kd.R_reads' HO371.out).2.2 | (with_reducible refine Kd.C_alloc ?_ _) | (with_reducible refine Kd.C_drewN ?_ _) | (with_reducible refine Kd.C_drew ?_))); (case side2 => exact (Kd.R_reads' HO371.out).2.1); (case side3 => repeat (first | exact (Kd.R_reads' HO375.out).2.2 | (with_reducible refine Kd.C_alloc ?_ _) | (with_reducible refine Kd.C_drewN ?_ _) | (with_reducible refine Kd.C_drew ?_))); (case side4 => exact (Kd.R_reads' HO375.out).2.1); rintro e w' ⟨rfl, ⟨nd, rfl⟩⟩; (try first | exact ⟨rfl, _, World.drewN_drewN _ _ _⟩ | exact ⟨rfl, _, Eq.trans (World.drewN_drewN _ _ _) (congrArg (World.drewN _) (Nat.add_assoc _ _ _))⟩)))
         repeat (go_quiet (first | (go_at_call 17; (with_reducible refine (hunk_Check.calls kj7 _ _ l1 (l0.length : Int) (l2.length : Int) t377 _ ?side1 ?side2 A20.out).mono ?_); (case side1 => repeat (first | exact (Kd.C_below HR1.out HB.out) | (with_reducible refine Kd.C_alloc ?_ _) | (with_reducible refine Kd.C_drewN ?_ _) | (with_reducible refine Kd.C_drew ?_))); (case side2 => exact HC1.out); rintro e w36 ⟨rfl, hb⟩; have n0_ := Zm (Kd.R_below (by (with_reducible repeat (first | apply Kd.R_alloc | apply Kd.R_drewN | apply Kd.R_drew)); exact HO371.out) hb); have n1_ := Zm (Kd.R_below (by (with_reducible repeat (first | apply Kd.R_alloc | apply Kd.R_drewN | apply Kd.R_drew)); exact HO375.out) hb); have n2_ := Zm (below_step (by repeat (first | (with_reducible first | exact HB.out | apply below_alloc | apply Zd | apply below_drew1) | exact HB.out)) hb); clear HO371; clear HO375; clear HB; have HO371 := n0_; have HO375 := n1_; have HB := n2_; clear n0_ n1_ n2_; (try clear hb); (try clear hb2); (try clear hk); (try clear hi); obtain ⟨Ao37, co37, eo37⟩ := Kd.R_slice HO371.out; subst eo37; obtain ⟨Ao38, co38, eo38⟩ := Kd.R_slice HO375.out; subst eo38) | (go_at_call 18; (with_reducible refine (r01_Same.calls kj7 _ _ t368 _ _ t372 false _ ?side1 ?side2 ?side3 ?side4 A24.out).mono ?_); (case side1 => repeat (first | exact (Kd.R_reads' HO371.out).2.2 | (with_reducible refine Kd.C_alloc ?_ _) | (with_reducible refine Kd.C_drewN ?_ _) | (with_reducible refine Kd.C_drew ?_))); (case side2 => exact (Kd.R_reads' HO371.out).2.1); (case side3 => repeat (first | exact (Kd.R_reads' HO375.out).2.2 | (with_reducible refine Kd.C_alloc ?_ _) | (with_reducible refine Kd.C_drewN ?_ _) | (with_reducible refine Kd.C_drew ?_))); (case side4 => exact (Kd.R_reads' HO375.out).2.1); rintro e w' ⟨rfl, ⟨nd, rfl⟩⟩; (try first | exact ⟨rfl, _, World.drewN_drewN _ _ _⟩ | exact ⟨rfl, _, Eq.trans (World.drewN_drewN _ _ _) (congrArg (World.drewN _) (Nat.add_assoc _ _ _))⟩))); try go_wp2_with (first | (go_at_call 17; (with_reducible refine (hunk_Check.calls kj7 _ _ l1 (l0.length : Int) (l2.length : Int) t377 _ ?side1 ?side2 A20.out).mono ?_); (case side1 => repeat (first | exact (Kd.C_below HR1.out HB.out) | (with_reducible refine Kd.C_alloc ?_ _) | (with_reducible refine Kd.C_drewN ?_ _) | (with_reducible refine Kd.C_drew ?_))); (case side2 => exact HC1.out); rintro e w36 ⟨rfl, hb⟩; have n0_ := Zm (Kd.R_below (by (with_reducible repeat (first | apply Kd.R_alloc | apply Kd.R_drewN | apply Kd.R_drew)); exact HO371.out) hb); have n1_ := Zm (Kd.R_below (by (with_reducible repeat (first | apply Kd.R_alloc | apply Kd.R_drewN | apply Kd.R_drew)); exact HO375.out) hb); have n2_ := Zm (below_step (by repeat (first | (with_reducible first | exact HB.out | apply below_alloc | apply Zd | apply below_drew1) | exact HB.out)) hb); clear HO371; clear HO375; clear HB; have HO371 := n0_; have HO375 := n1_; have HB := n2_; clear n0_ n1_ n2_; (try clear hb); (try clear hb2); (try clear hk); (try clear hi); obtain ⟨Ao37, co37, eo37⟩ := Kd.R_slice HO371.out; subst eo37; obtain ⟨Ao38, co38, eo38⟩ := Kd.R_slice HO375.out; subst eo38) | (go_at_call 18; (with_reducible refine (r01_Same.calls kj7 _ _ t368 _ _ t372 false _ ?side1 ?side2 ?side3 ?side4 A24.out).mono ?_); (case side1 => repeat (first | exact (Kd.R_reads' HO371.out).2.2 | (with_reducible refine Kd.C_alloc ?_ _) | (with_reducible refine Kd.C_drewN ?_ _) | (with_reducible refine Kd.C_drew ?_))); (case side2 => exact (Kd.R_reads' HO371.out).2.1); (case side3 => repeat (first | exact (Kd.R_reads' HO375.out).2.2 | (with_reducible refine Kd.C_alloc ?_ _) | (with_reducible refine Kd.C_drewN ?_ _) | (with_reducible refine Kd.C_drew ?_))); (case side4 => exact (Kd.R_reads' HO375.out).2.1); rintro e w' ⟨rfl, ⟨nd, rfl⟩⟩; (try first | exact ⟨rfl, _, World.drewN_drewN _ _ _⟩ | exact ⟨rfl, _, Eq.trans (World.drewN_drewN _ _ _) (congrArg (World.drewN _) (Nat.add_assoc _ _ _))⟩))))
         go_meet
         case rel => exact ⟨_, (true), (by first | rfl | (simp; done) | (simp [*]; done)), H', ⟨by have := HJ7.out; first | omega | exact Nat.le_refl _⟩, ⟨by repeat (first | (with_reducible first | exact HB.out | apply below_alloc | apply Zd | apply below_drew1) | exact HB.out)⟩⟩
       ·rw [if_neg c23] at H
        have c23b0 : (t369 == t373) = false := beq_eq_false_iff_ne.mpr c23
        have c23b1 : (t369 != t373) = true := bne_iff_ne.mpr c23
        have H' := Zm H
        clear H
        go_wp2_with (first | (go_at_call 17; (with_reducible refine (hunk_Check.calls kj7 _ _ l1 (l0.length : Int) (l2.length : Int) t377 _ ?side1 ?side2 A20.out).mono ?_); (case side1 => repeat (first | exact (Kd.C_below HR1.out HB.out) | (with_reducible refine Kd.C_alloc ?_ _) | (with_reducible refine Kd.C_drewN ?_ _) | (with_reducible refine Kd.C_drew ?_))); (case side2 => exact HC1.out); rintro e w39 ⟨rfl, hb⟩; have n0_ := Zm (Kd.R_below (by (with_reducible repeat (first | apply Kd.R_alloc | apply Kd.R_drewN | apply Kd.R_drew)); exact HO371.out) hb); have n1_ := Zm (Kd.R_below (by (with_reducible repeat (first | apply Kd.R_alloc | apply Kd.R_drewN | apply Kd.R_drew)); exact HO375.out) hb); have n2_ := Zm (below_step (by repeat (first | (with_reducible first | exact HB.out | apply below_alloc | apply Zd | apply below_drew1) | exact HB.out)) hb); clear HO371; clear HO375; clear HB; have HO371 := n0_; have HO375 := n1_; have HB := n2_; clear n0_ n1_ n2_; (try clear hb); (try clear hb2); (try clear hk); (try clear hi)))
        repeat (go_quiet (first | (go_at_call 17; (with_reducible refine (hunk_Check.calls kj7 _ _ l1 (l0.length : Int) (l2.length : Int) t377 _ ?side1 ?side2 A20.out).mono ?_); (case side1 => repeat (first | exact (Kd.C_below HR1.out HB.out) | (with_reducible refine Kd.C_alloc ?_ _) | (with_reducible refine Kd.C_drewN ?_ _) | (with_reducible refine Kd.C_drew ?_))); (case side2 => exact HC1.out); rintro e w39 ⟨rfl, hb⟩; have n0_ := Zm (Kd.R_below (by (with_reducible repeat (first | apply Kd.R_alloc | apply Kd.R_drewN | apply Kd.R_drew)); exact HO371.out) hb); have n1_ := Zm (Kd.R_below (by (with_reducible repeat (first | apply Kd.R_alloc | apply Kd.R_drewN | apply Kd.R_drew)); exact HO375.out) hb); have n2_ := Zm (below_step (by repeat (first | (with_reducible first | exact HB.out | apply below_alloc | apply Zd | apply below_drew1) | exact HB.out)) hb); clear HO371; clear HO375; clear HB; have HO371 := n0_; have HO375 := n1_; have HB := n2_; clear n0_ n1_ n2_; (try clear hb); (try clear hb2); (try clear hk); (try clear hi))); try go_wp2_with (first | (go_at_call 17; (with_reducible refine (hunk_Check.calls kj7 _ _ l1 (l0.length : Int) (l2.length : Int) t377 _ ?side1 ?side2 A20.out).mono ?_); (case side1 => repeat (first | exact (Kd.C_below HR1.out HB.out) | (with_reducible refine Kd.C_alloc ?_ _) | (with_reducible refine Kd.C_drewN ?_ _) | (with_reducible refine Kd.C_drew ?_))); (case side2 => exact HC1.out); rintro e w39 ⟨rfl, hb⟩; have n0_ := Zm (Kd.R_below (by (with_reducible repeat (first | apply Kd.R_alloc | apply Kd.R_drewN | apply Kd.R_drew)); exact HO371.out) hb); have n1_ := Zm (Kd.R_below (by (with_reducible repeat (first | apply Kd.R_alloc | apply Kd.R_drewN | apply Kd.R_drew)); exact HO375.out) hb); have n2_ := Zm (below_step (by repeat (first | (with_reducible first | exact HB.out | apply below_alloc | apply Zd | apply below_drew1) | exact HB.out)) hb); clear HO371; clear HO375; clear HB; have HO371 := n0_; have HO375 := n1_; have HB := n2_; clear n0_ n1_ n2_; (try clear hb); (try clear hb2); (try clear hk); (try clear hi))))
        go_meet
        case rel => exact ⟨_, (true), (by first | rfl | (simp; done) | (simp [*]; done)), H', ⟨by have := HJ7.out; first | omega | exact Nat.le_refl _⟩, ⟨by repeat (first | (with_reducible first | exact HB.out | apply below_alloc | apply Zd | apply below_drew1) | exact HB.out)⟩⟩
     case rest =>
      clear HC16
      try clear c1
      try clear c2
      try clear p2
      try clear c4
      try clear c5
      try clear c10
      try clear c11
      try clear c12
      try clear c21
      try clear c21b0
      try clear c21b1
      try clear c21b2
      try clear c23
      try clear c23b0
      try clear c23b1
      try clear c25
      try clear p2
      obtain ⟨kq, x82_15, rfl, HA, HJ15, HB⟩ := hcut
      cases kq with
      | zero => exact absurd HA.out (by simp [l06_HunkPatches.j1])
      | succ kj15 =>
       have H := HA.out
       clear HA
       simp only [l06_HunkPatches.j1] at H
       by_cases c40 : x82_15 = true
       ·subst c40
        have H1 : (none) = some r := by rw [if_pos rfl] at H; exact H
        clear H
        have H := H1
        clear H1
        exact absurd H (by simp)
       ·replace c40 := Bool.eq_false_iff.mpr c40
        subst c40
        have H1 : (if t376 = true then (l06_HunkPatches.l0 kj15 l1 0 0) else (some true)) = some r := by rw [if_neg (show ¬ (false = true) by decide)] at H; exact H
        clear H
        have H := H1
        clear H1
        by_cases c41 : t376 = true
        ·subst c41
         have H1 : (l06_HunkPatches.l0 kj15 l1 0 0) = some r := by rw [if_pos rfl] at H; exact H
         clear H
         have H := H1
         clear H1
         have H' := Zm H
         clear H
         go_wp2
         repeat (go_quiet (fail); try go_wp2)
         go_loopg [15, 16] kj15 (fun kq v15 v16 w' => ∃ (x15_3 : Int) (x16_3 : Int), v15 = .int .i64 x15_3 ∧ v16 = .int .i64 x16_3 ∧ Aside0 (l06_HunkPatches.l0 kq l1 x15_3 x16_3 = some r) ∧ Aside0 (kq ≤ kj15) ∧ Aside0 (Below w.heap.size w w'))
         case atStart => exact ⟨(0), (0), (by first | rfl | (simp; done) | (simp [*]; done)), (by first | rfl | (simp; done) | (simp [*]; done)), H', ⟨Nat.le_refl _⟩, ⟨by repeat (first | (with_reducible first | exact HB.out | apply below_alloc | apply Zd | apply below_drew1) | exact HB.out)⟩⟩
         case round =>
          clear H'
          try clear c1
          try clear c2
          try clear p2
          try clear c4
          try clear c5
          try clear c10
          try clear c11
          try clear c12
          try clear c21
          try clear c21b0
          try clear c21b1
          try clear c21b2
          try clear c23
          try clear c23b0
          try clear c23b1
          try clear c25
          try clear c40
          try clear c41
          try clear p2
          obtain ⟨x15_3, x16_3, rfl, rfl, HA, HK3, HB⟩ := hrel
          cases gk with
          | zero => exact absurd HA.out (by simp [l06_HunkPatches.l0])
          | succ k3 =>
           have H := HA.out
           clear HA
           simp only [l06_HunkPatches.l0] at H
           by_cases c42 : x16_3 < (l1.length : Int)
           ·rw [if_pos c42] at H
            have c42b0 : decide (x16_3 < (l1.length : Int)) = true := decide_eq_true c42
            clear c42
            by_cases c43 : 0 ≤ x16_3
            ·rw [if_pos c43] at H
             have c43b0 : decide (0 ≤ x16_3) = true := decide_eq_true c43
             clear c43
             have H' := Zm H
             clear H
             have p386 : 0 ≤ (x16_3 : Int) := Zo (by first | (with_reducible assumption) | assumption)
             have q386 : x16_3 < (l1.length : Int) := Zo (by first | (with_reducible assumption) | assumption)
             obtain ⟨ad386, e386, hx386_0, hx386_1, hx386_2, hx386_3⟩ := at_T40 HR1.out x16_3 p386 q386
             cases e386
             replace hx386_0 := (HB.out.cell (World.block_lt_of_cell? w _ hx386_0)).trans hx386_0
             replace hx386_1 := (HB.out.cell (World.block_lt_of_cell? w _ hx386_1)).trans hx386_1
             replace hx386_2 := (HB.out.cell (World.block_lt_of_cell? w _ hx386_2)).trans hx386_2
             replace hx386_3 := (HB.out.cell (World.block_lt_of_cell? w _ hx386_3)).trans hx386_3
             replace p386 := eq_true p386
             replace q386 := eq_true q386
             have p387 : 0 ≤ (x16_3 : Int) := Zo (by first | (with_reducible assumption) | assumption)
             have q387 : x16_3 < (l1.length : Int) := Zo (by first | (with_reducible assumption) | assumption)
             obtain ⟨ad387, e387, hx387_0, hx387_1, hx387_2, hx387_3⟩ := at_T40 HR1.out x16_3 p387 q387
             obtain rfl : ad386 = ad387 := (by injection e387)
             replace hx387_0 := (HB.out.cell (World.block_lt_of_cell? w _ hx387_0)).trans hx387_0
             replace hx387_1 := (HB.out.cell (World.block_lt_of_cell? w _ hx387_1)).trans hx387_1
             replace hx387_2 := (HB.out.cell (World.block_lt_of_cell? w _ hx387_2)).trans hx387_2
             replace hx387_3 := (HB.out.cell (World.block_lt_of_cell? w _ hx387_3)).trans hx387_3
             replace p387 := eq_true p387
             replace q387 := eq_true q387
             go_wp2
             repeat (go_quiet (fail); try go_wp2)
             go_roundg k3
             case measure => have := HJ7.out; have := HJ15.out; have := HK3.out; omega
             case rel => exact ⟨(wrap64 (x15_3 + (wrap64 (((rd_T40 l1 x16_3).f1) + ((rd_T40 l1 x16_3).f3))))), (wrap64 (x16_3 + 1)), (by first | rfl | (simp; done) | (simp [*]; done)), (by first | rfl | (simp; done) | (simp [*]; done)), H', ⟨by have := HJ7.out; have := HJ15.out; have := HK3.out; omega⟩, ⟨by repeat (first | (with_reducible first | exact HB.out | apply below_alloc | apply Zd | apply below_drew1) | exact HB.out)⟩⟩
            ·rw [if_neg c43] at H
             exact absurd H (by simp)
           ·rw [if_neg c42] at H
            have c42b0 : decide (x16_3 < (l1.length : Int)) = false := decide_eq_false c42
            clear c42
            replace H := Option.bind_eq_some_iff.mp H
            obtain ⟨t388, A440, H⟩ := H
            replace H : (some (t388 == x15_3)) = some r := H
            have A44 := Zm A440
            clear A440
            obtain rfl := Option.some.inj H
            go_wp2_with (first | (go_at_call 21; (with_reducible refine (hunk_Cost.calls k3 _ _ l1 t388 _ ?side1 ?side2 A44.out).mono ?_); (case side1 => repeat (first | exact (Kd.C_below HR1.out HB.out) | (with_reducible refine Kd.C_alloc ?_ _) | (with_reducible refine Kd.C_drewN ?_ _) | (with_reducible refine Kd.C_drew ?_))); (case side2 => exact HC1.out); rintro e w45 ⟨rfl, hb⟩; have n0_ := Zm (below_step (by repeat (first | (with_reducible first | exact HB.out | apply below_alloc | apply Zd | apply below_drew1) | exact HB.out)) hb); clear HB; have HB := n0_; clear n0_; (try clear hb); (try clear hb2); (try clear hk); (try clear hi)))
            repeat (go_quiet (first | (go_at_call 21; (with_reducible refine (hunk_Cost.calls k3 _ _ l1 t388 _ ?side1 ?side2 A44.out).mono ?_); (case side1 => repeat (first | exact (Kd.C_below HR1.out HB.out) | (with_reducible refine Kd.C_alloc ?_ _) | (with_reducible refine Kd.C_drewN ?_ _) | (with_reducible refine Kd.C_drew ?_))); (case side2 => exact HC1.out); rintro e w45 ⟨rfl, hb⟩; have n0_ := Zm (below_step (by repeat (first | (with_reducible first | exact HB.out | apply below_alloc | apply Zd | apply below_drew1) | exact HB.out)) hb); clear HB; have HB := n0_; clear n0_; (try clear hb); (try clear hb2); (try clear hk); (try clear hi))); try go_wp2_with (first | (go_at_call 21; (with_reducible refine (hunk_Cost.calls k3 _ _ l1 t388 _ ?side1 ?side2 A44.out).mono ?_); (case side1 => repeat (first | exact (Kd.C_below HR1.out HB.out) | (with_reducible refine Kd.C_alloc ?_ _) | (with_reducible refine Kd.C_drewN ?_ _) | (with_reducible refine Kd.C_drew ?_))); (case side2 => exact HC1.out); rintro e w45 ⟨rfl, hb⟩; have n0_ := Zm (below_step (by repeat (first | (with_reducible first | exact HB.out | apply below_alloc | apply Zd | apply below_drew1) | exact HB.out)) hb); clear HB; have HB := n0_; clear n0_; (try clear hb); (try clear hb2); (try clear hk); (try clear hi))))
            go_ret
            exact ⟨by first | rfl | (simp [errW_none, errW_some] <;> rfl) | (simp [*, errW_none, errW_some] <;> rfl), by repeat (first | (with_reducible first | exact HB.out | apply below_alloc | apply Zd | apply below_drew1) | exact HB.out)⟩
        ·replace c41 := Bool.eq_false_iff.mpr c41
         subst c41
         have H1 : (some true) = some r := by rw [if_neg (show ¬ (false = true) by decide)] at H; exact H
         clear H
         have H := H1
         clear H1
         obtain rfl := Option.some.inj H
         go_wp2
         repeat (go_quiet (fail); try go_wp2)
         go_ret
         exact ⟨by first | rfl | (simp [errW_none, errW_some] <;> rfl) | (simp [*, errW_none, errW_some] <;> rfl), by repeat (first | (with_reducible first | exact HB.out | apply below_alloc | apply Zd | apply below_drew1) | exact HB.out)⟩
 ·replace c5 := Bool.eq_false_iff.mpr c5
  subst c5
  have H1 : (none) = some r := by rw [if_neg (show ¬ (false = true) by decide)] at H; exact H
  clear H
  have H := H1
  clear H1
  exact absurd H (by simp)
/-! ### r05_Length: function 23 -/
def r05_Length.l0 : Nat → List Int → Int → Int → Option (Int)
 | 0, _, _, _ => none
 | k + 1, x5, x6, x7 => if x7 < (x5.length : Int) then (if 0 ≤ x7 then (if (rd x5 x7) ≥ 0 then (r05_Length.l0 k x5 (wrap64 (x6 + 1)) (wrap64 (x7 + 1))) else (r05_Length.l0 k x5 x6 (wrap64 (x7 + 1)))) else (none)) else (some x6)
def r05_Length.f (k : Nat) (l0 : List Int) (l1 : List Int) : Option (Int) := (r05_Match.f k l0 l1).bind fun t389 => (r05_Length.l0 k t389 0 0)
theorem r05_Length.mono_l : ∀ k, (∀ y0 y1 y2, LeO (r05_Length.l0 k y0 y1 y2) (r05_Length.l0 (k + 1) y0 y1 y2))
 | 0 => fun _ _ _ r h => by simp [r05_Length.l0] at h
 | k + 1 => by
  have ih0 := r05_Length.mono_l k
  ·intro y0 y1 y2
   unfold r05_Length.l0
   repeat' first
   | (with_reducible exact ih0 _ _ _)
   | (with_reducible exact r05_Match.mono _ _ _)
   | (with_reducible exact LeO.refl _)
   | (with_reducible exact LeO.none _)
   | (with_reducible refine LeO.ite ?_ ?_)
   | (with_reducible refine LeO.bind ?_ (fun _ => ?_))
   | exact ih0 _ _ _
   | exact r05_Match.mono _ _ _
   | exact LeO.none _
   | refine LeO.ite ?_ ?_
   | refine LeO.bind ?_ (fun _ => ?_)
theorem r05_Length.mono : ∀ a0 a1 k, LeO (r05_Length.f k a0 a1) (r05_Length.f (k + 1) a0 a1) := by
 intro a0 a1 k
 have ih0 := r05_Length.mono_l k
 unfold r05_Length.f
 repeat' first
   | (with_reducible exact ih0 _ _ _)
   | (with_reducible exact r05_Match.mono _ _ _)
   | (with_reducible exact LeO.refl _)
   | (with_reducible exact LeO.none _)
   | (with_reducible refine LeO.ite ?_ ?_)
   | (with_reducible refine LeO.bind ?_ (fun _ => ?_))
   | exact ih0 _ _ _
   | exact r05_Match.mono _ _ _
   | exact LeO.none _
   | refine LeO.ite ?_ ?_
   | refine LeO.bind ?_ (fun _ => ?_)
set_option maxHeartbeats 8000000 in
set_option maxRecDepth 100000 in
theorem r05_Length.calls (k : Nat) (A0 : Option Addr) (c0 : Nat) (l0 : List Int) (A1 : Option Addr) (c1 : Nat) (l1 : List Int) (r : Int) (w : World) (hr0 : Kd.C (Kd.int .i64) w A0 l0.length l0) (hc0 : l0.length ≤ c0) (hr1 : Kd.C (Kd.int .i64) w A1 l1.length l1) (hc1 : l1.length ≤ c1) (h : r05_Length.f k l0 l1 = some r) :
  Calls Try.prog 23 #[.slice A0 l0.length c0, .slice A1 l1.length c1] w fun e w' => e = .returned (.int .i64 r) ∧ Below w.heap.size w w' := by
 have HR0 := Zm hr0
 have HC0 := Zm hc0
 clear hr0 hc0
 have HR1 := Zm hr1
 have HC1 := Zm hc1
 clear hr1 hc1
 have HB := Zm (Below.refl w.heap.size w)
 have H : ((r05_Match.f k l0 l1).bind fun t389 => (r05_Length.l0 k t389 0 0)) = some r := h
 clear h
 replace H := Option.bind_eq_some_iff.mp H
 obtain ⟨t389, A30, H⟩ := H
 replace H : (r05_Length.l0 k t389 0 0) = some r := H
 have A3 := Zm A30
 clear A30
 have H' := Zm H
 clear H
 go_enter Try.func23, Try.ntmps23
 go_wp2_with (first | ((with_reducible refine gate_callee (f := 31) rfl ?_); refine goesL_ (some 10) rfl rfl Try.func31 (by kernel_rfl) rfl #[.slice A0 l0.length c0, .slice A1 l1.length c1] rfl (by (try simp only [List.map_toArray, List.map_cons, List.map_nil]); first | done | rfl | (simp only [List.length_drop, List.length_take]; rfl)) ?_; (with_reducible refine (r05_Match.calls k _ _ l0 _ _ l1 t389 _ ?side1 ?side2 ?side3 ?side4 A3.out).mono ?_); (case side1 => repeat (first | exact HR0.out | (with_reducible refine Kd.C_alloc ?_ _) | (with_reducible refine Kd.C_drewN ?_ _) | (with_reducible refine Kd.C_drew ?_))); (case side2 => exact HC0.out); (case side3 => repeat (first | exact HR1.out | (with_reducible refine Kd.C_alloc ?_ _) | (with_reducible refine Kd.C_drewN ?_ _) | (with_reducible refine Kd.C_drew ?_))); (case side4 => exact HC1.out); rintro e w4 ⟨v390, rfl, ho0, hb⟩; refine ⟨_, rfl, ?_⟩; have n0_ := Zm (Kd.R_lower ho0 (below_size (by repeat (first | (with_reducible first | exact HB.out | apply below_alloc | apply Zd | apply below_drew1) | exact HB.out)))); have n1_ := Zm (below_step (by repeat (first | (with_reducible first | exact HB.out | apply below_alloc | apply Zd | apply below_drew1) | exact HB.out)) hb); clear HB; have HO391 := n0_; have HB := n1_; clear n0_ n1_; (try clear hb); (try clear hb2); (try clear hk); (try clear hi); (try clear ho0)))
 go_loopg [6, 7] k (fun kq v6 v7 w' => ∃ (x6_1 : Int) (x7_1 : Int), v6 = .int .i64 x6_1 ∧ v7 = .int .i64 x7_1 ∧ Aside0 (r05_Length.l0 kq t389 x6_1 x7_1 = some r) ∧ Aside0 (kq ≤ k) ∧ Aside0 (Kd.R (Kd.int .i64) 3 w' w.heap.size (fun _ => True) v390 t389) ∧ Aside0 (Below w.heap.size w w'))
 case atStart => exact ⟨(0), (0), (by first | rfl | (simp; done) | (simp [*]; done)), (by first | rfl | (simp; done) | (simp [*]; done)), H', ⟨Nat.le_refl _⟩, ⟨by (with_reducible repeat (first | apply Kd.R_alloc | apply Kd.R_drewN | apply Kd.R_drew)); first | exact HO391.out | exact Kd.R_mono HO391.out (fun _ _ => trivial)⟩, ⟨by repeat (first | (with_reducible first | exact HB.out | apply below_alloc | apply Zd | apply below_drew1) | exact HB.out)⟩⟩
 case round =>
  clear H'
  try clear c1
  try clear c2
  try clear p2
  try clear c3
  obtain ⟨x6_1, x7_1, rfl, rfl, HA, HK1, HO_5, HB⟩ := hrel
  cases gk with
  | zero => exact absurd HA.out (by simp [r05_Length.l0])
  | succ k1 =>
   have H := HA.out
   clear HA
   simp only [r05_Length.l0] at H
   by_cases c5 : x7_1 < (t389.length : Int)
   ·rw [if_pos c5] at H
    have c5b0 : decide (x7_1 < (t389.length : Int)) = true := decide_eq_true c5
    clear c5
    by_cases c6 : 0 ≤ x7_1
    ·rw [if_pos c6] at H
     have c6b0 : decide (0 ≤ x7_1) = true := decide_eq_true c6
     clear c6
     by_cases c7 : (rd t389 x7_1) ≥ 0
     ·rw [if_pos c7] at H
      have c7b0 : decide (0 ≤ (rd t389 x7_1)) = true := decide_eq_true c7
      clear c7
      have H' := Zm H
      clear H
      obtain ⟨Ao8, co8, eo8⟩ := Kd.R_slice HO_5.out
      subst eo8
      have p392 : 0 ≤ (x7_1 : Int) := Zo (by first | (with_reducible assumption) | assumption)
      have q392 : x7_1 < (t389.length : Int) := Zo (by first | (with_reducible assumption) | assumption)
      obtain ⟨ad392, e392, hx392_0⟩ := Kd.at_int (Kd.R_reads' HO_5.out).2.2 x7_1 p392 q392
      cases e392
      replace p392 := eq_true p392
      replace q392 := eq_true q392
      go_wp2
      go_roundg k1
      case measure => have := HK1.out; omega
      case rel => exact ⟨(wrap64 (x6_1 + 1)), (wrap64 (x7_1 + 1)), (by first | rfl | (simp; done) | (simp [*]; done)), (by first | rfl | (simp; done) | (simp [*]; done)), H', ⟨by have := HK1.out; omega⟩, ⟨by (with_reducible repeat (first | apply Kd.R_alloc | apply Kd.R_drewN | apply Kd.R_drew)); first | exact HO_5.out | exact Kd.R_mono HO_5.out (fun _ _ => trivial)⟩, ⟨by repeat (first | (with_reducible first | exact HB.out | apply below_alloc | apply Zd | apply below_drew1) | exact HB.out)⟩⟩
     ·rw [if_neg c7] at H
      have c7b0 : decide (0 ≤ (rd t389 x7_1)) = false := decide_eq_false c7
      clear c7
      have H' := Zm H
      clear H
      obtain ⟨Ao9, co9, eo9⟩ := Kd.R_slice HO_5.out
      subst eo9
      have p392 : 0 ≤ (x7_1 : Int) := Zo (by first | (with_reducible assumption) | assumption)
      have q392 : x7_1 < (t389.length : Int) := Zo (by first | (with_reducible assumption) | assumption)
      obtain ⟨ad392, e392, hx392_0⟩ := Kd.at_int (Kd.R_reads' HO_5.out).2.2 x7_1 p392 q392
      cases e392
      replace p392 := eq_true p392
      replace q392 := eq_true q392
      go_wp2
      go_roundg k1
      case measure => have := HK1.out; omega
      case rel => exact ⟨(x6_1), (wrap64 (x7_1 + 1)), (by first | rfl | (simp; done) | (simp [*]; done)), (by first | rfl | (simp; done) | (simp [*]; done)), H', ⟨by have := HK1.out; omega⟩, ⟨by (with_reducible repeat (first | apply Kd.R_alloc | apply Kd.R_drewN | apply Kd.R_drew)); first | exact HO_5.out | exact Kd.R_mono HO_5.out (fun _ _ => trivial)⟩, ⟨by repeat (first | (with_reducible first | exact HB.out | apply below_alloc | apply Zd | apply below_drew1) | exact HB.out)⟩⟩
    ·rw [if_neg c6] at H
     exact absurd H (by simp)
   ·rw [if_neg c5] at H
    have c5b0 : decide (x7_1 < (t389.length : Int)) = false := decide_eq_false c5
    clear c5
    obtain rfl := Option.some.inj H
    obtain ⟨Ao10, co10, eo10⟩ := Kd.R_slice HO_5.out
    subst eo10
    go_wp2
    go_ret
    exact ⟨by first | rfl | (simp [errW_none, errW_some] <;> rfl) | (simp [*, errW_none, errW_some] <;> rfl), by repeat (first | (with_reducible first | exact HB.out | apply below_alloc | apply Zd | apply below_drew1) | exact HB.out)⟩
end Go.Proofs.Ytphghffdaceaoaa.PHunk
