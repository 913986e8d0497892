/- Laid by a program of this session out of the seat's translation. -/
import Derived.Test.YtphghffdaceaoaaPHunkx0
import Derived.Test.YtphghffdaceaoaaPHunkx2
import Derived.Test.YtphghffdaceaoaaPHunkx5
import Derived.Test.YtphghffdaceaoaaPHunkx7
import Derived.Test.YtphghffdaceaoaaPHunkx8
import Derived.Test.YtphghffdaceaoaaPHunkx10
import Derived.Test.YtphghffdaceaoaaPHunkx14
import Derived.Test.YtphghffdaceaoaaPHunkx17
namespace Go.Proofs.Ytphghffdaceaoaa.PHunk
open Go.RowKit Go.Proofs.YtphghffdaceaoaaW.PrintWords Go.Proofs.YtphghffdaceaoaaW.PrintLast Go.Proofs.YtphghffdaceaoaaW.PrintMore
attribute [local go_sem] max2_int min2_int max_two min_two max_three min_three max_four min_four   -- for this text's walks alone
set_option linter.unusedVariables false
set_option linter.unusedSimpArgs false
/-! ### l06_HunkBack: function 5 -/
def l06_HunkBack.j0 : Nat → List ByteArray → List ByteArray → Bool → Option (Bool)
 | 0, _, _, _ => none
 | k + 1, x0, x1, x27 => if x27 = true then (some true) else ((hunk_Texts.f k x0 x1).bind fun t396 => ((hunk_Patch.f k x0 t396 x1).bind fun bt399 => ((hunk_Invert.f k t396).bind fun t403 => ((hunk_Patch.f k x1 t403 x0).bind fun bt406 => ((r05_Numbers.f k (([x0, x1] : List (List ByteArray)))).bind fun t413 => (if 0 < (t413.length : Int) then (if 1 < (t413.length : Int) then ((r05_Length.f k (rd_L2 t413 0) (rd_L2 t413 1)).bind fun t418 => (if bt399.2 = 0 then (if bt406.2 = 0 then ((r01_Same.f k bt399.1 x1).bind fun t419 => (if t419 = true then ((r01_Same.f k bt406.1 x0).bind fun t420 => (if t420 = true then ((hunk_Cost.f k t396).bind fun t421 => (if t421 = (wrap64 ((wrap64 ((x0.length : Int) + (x1.length : Int))) - (wrap64 (2 * t418)))) then ((hunk_Invert.f k t396).bind fun t422 => ((hunk_Invert.f k t422).bind fun t425 => ((r06_Same.f k t425 t396).bind fun t428 => (some t428)))) else (none))) else (none))) else (none))) else (none)) else (none))) else (none)) else (none)))))))
def l06_HunkBack.f (k : Nat) (l0 : List ByteArray) (l1 : List ByteArray) : Option (Bool) := (l06_awake.f k).bind fun t393 => (if t393 = true then ((l06_short.f l0).bind fun t394 => ((l06_short.f l1).bind fun t395 => (if t394 = true then (l06_HunkBack.j0 k l0 l1 (!t395)) else (l06_HunkBack.j0 k l0 l1 true)))) else (none))
def l06_HunkBack.T12 : Bool × List (List Nat × List Nat) := (true, [([], []), ([0], [0]), ([1], [1]), ([], []), ([3], [3]), ([4], [4]), ([2, 5], [2, 5]), ([6, 6, 0, 1, 2, 3, 4, 5, 6], [6])])
def l06_HunkBack.B12 : List Nat := [0, 1, 3, 0, 8, 24, 63, 127]
theorem l06_HunkBack.tab12 : rtab .any (opsOf Try.f5 12) = l06_HunkBack.T12 := by kernel_rfl
theorem l06_HunkBack.bits12 : waitsOk l06_HunkBack.T12.2 l06_HunkBack.B12 = true := by kernel_rfl
set_option maxHeartbeats 8000000 in
set_option maxRecDepth 100000 in
theorem l06_HunkBack.calls (k : Nat) (P0_ : Nat → Prop) (A0 : Option Addr) (c0 : Nat) (l0 : List ByteArray) (P1_ : Nat → Prop) (A1 : Option Addr) (c1 : Nat) (l1 : List ByteArray) (r : Bool) (w : World) (hs0 : Kd.V Kd.string 9 w w.heap.size (fun k_ => P0_ k_) (.slice A0 l0.length c0) l0) (hs1 : Kd.V Kd.string 9 w w.heap.size (fun k_ => P1_ k_) (.slice A1 l1.length c1) l1) (h : l06_HunkBack.f k l0 l1 = some r) :
  Calls Try.prog 5 #[.slice A0 l0.length c0, .slice A1 l1.length c1] w fun e w' => e = .returned (.bool r) ∧ Below w.heap.size w w' := by
 have HO0 := Zm (show Kd.V Kd.string 9 w w.heap.size (fun k_ => ((P0_ k_ ∨ P1_ k_) ∨ w.heap.size ≤ k_)) (.slice A0 l0.length c0) l0 from Kd.V_mono hs0 (fun k_ hk => .inl (.inl hk)))
 have HO1 := Zm (show Kd.V Kd.string 9 w w.heap.size (fun k_ => ((P0_ k_ ∨ P1_ k_) ∨ w.heap.size ≤ k_)) (.slice A1 l1.length c1) l1 from Kd.V_mono hs1 (fun k_ hk => .inl (.inr hk)))
 have HB := Zm (Below.refl w.heap.size w)
 have H : ((l06_awake.f k).bind fun t393 => (if t393 = true then ((l06_short.f l0).bind fun t394 => ((l06_short.f l1).bind fun t395 => (if t394 = true then (l06_HunkBack.j0 k l0 l1 (!t395)) else (l06_HunkBack.j0 k l0 l1 true)))) else (none))) = some r := h
 clear h
 replace H := Option.bind_eq_some_iff.mp H
 obtain ⟨t393, A30, H⟩ := H
 replace H : (if t393 = true then ((l06_short.f l0).bind fun t394 => ((l06_short.f l1).bind fun t395 => (if t394 = true then (l06_HunkBack.j0 k l0 l1 (!t395)) else (l06_HunkBack.j0 k l0 l1 true)))) else (none)) = some r := H
 have A3 := Zm A30
 clear A30
 by_cases c4 : t393 = true
 ·subst c4
  have H1 : ((l06_short.f l0).bind fun t394 => ((l06_short.f l1).bind fun t395 => (if t394 = true then (l06_HunkBack.j0 k l0 l1 (!t395)) else (l06_HunkBack.j0 k l0 l1 true)))) = some r := by rw [if_pos rfl] at H; exact H
  clear H
  have H := H1
  clear H1
  replace H := Option.bind_eq_some_iff.mp H
  obtain ⟨t394, A50, H⟩ := H
  replace H : ((l06_short.f l1).bind fun t395 => (if t394 = true then (l06_HunkBack.j0 k l0 l1 (!t395)) else (l06_HunkBack.j0 k l0 l1 true))) = some r := H
  have A5 := Zm A50
  clear A50
  replace H := Option.bind_eq_some_iff.mp H
  obtain ⟨t395, A60, H⟩ := H
  replace H : (if t394 = true then (l06_HunkBack.j0 k l0 l1 (!t395)) else (l06_HunkBack.j0 k l0 l1 true)) = some r := H
  have A6 := Zm A60
  clear A60
  have HC7 := Zm H
  clear H
  go_enter Try.func5, Try.ntmps5
  go_upto_region 6 with (first | ((with_reducible refine gate_callee (f := 7) rfl ?_); refine goesL_ (some 15) rfl rfl Try.func7 (by kernel_rfl) rfl #[] rfl (by (try simp only [List.map_toArray, List.map_cons, List.map_nil]); first | done | rfl | (simp only [List.length_drop, List.length_take]; rfl)) ?_; (with_reducible refine (l06_awake.calls k  true _ A3.out).mono ?_); rintro e w8 ⟨rfl, hb⟩; refine ⟨_, rfl, ?_⟩; have n0_ := Zm (Kd.V_below (by (with_reducible repeat (first | apply Kd.V_alloc | apply Kd.V_drewN | apply Kd.V_drew)); exact HO0.out) hb); have n1_ := Zm (Kd.V_below (by (with_reducible repeat (first | apply Kd.V_alloc | apply Kd.V_drewN | apply Kd.V_drew)); exact HO1.out) hb); have n2_ := Zm (below_step (by repeat (first | (with_reducible first | exact HB.out | apply below_alloc | apply Zd | apply below_drew1) | exact HB.out)) hb); clear HO0; clear HO1; clear HB; have HO0 := n0_; have HO1 := n1_; have HB := n2_; clear n0_ n1_ n2_; (try clear hb); (try clear hb2); (try clear hk); (try clear hi)) | ((with_reducible refine gate_callee (f := 13) rfl ?_); refine goesL_ (some 19) rfl rfl Try.func13 (by kernel_rfl) rfl #[.slice A0 l0.length c0] rfl (by (try simp only [List.map_toArray, List.map_cons, List.map_nil]); first | done | rfl | (simp only [List.length_drop, List.length_take]; rfl)) ?_; (with_reducible refine (l06_short.calls _ _ l0 t394 _ ?side1 ?side2 A5.out).mono ?_); (case side1 => repeat (first | exact (Kd.V_reads' HO0.out).2.2 | (with_reducible refine Kd.C_alloc ?_ _) | (with_reducible refine Kd.C_drewN ?_ _) | (with_reducible refine Kd.C_drew ?_))); (case side2 => exact (Kd.V_reads' HO0.out).2.1); rintro e w' ⟨rfl, ⟨nd, rfl⟩⟩; refine ⟨_, rfl, ?_⟩) | ((with_reducible refine gate_callee (f := 13) rfl ?_); refine goesL_ (some 21) rfl rfl Try.func13 (by kernel_rfl) rfl #[.slice A1 l1.length c1] rfl (by (try simp only [List.map_toArray, List.map_cons, List.map_nil]); first | done | rfl | (simp only [List.length_drop, List.length_take]; rfl)) ?_; (with_reducible refine (l06_short.calls _ _ l1 t395 _ ?side1 ?side2 A6.out).mono ?_); (case side1 => repeat (first | exact (Kd.V_reads' HO1.out).2.2 | (with_reducible refine Kd.C_alloc ?_ _) | (with_reducible refine Kd.C_drewN ?_ _) | (with_reducible refine Kd.C_drew ?_))); (case side2 => exact (Kd.V_reads' HO1.out).2.1); rintro e w' ⟨rfl, ⟨nd, rfl⟩⟩; refine ⟨_, rfl, ?_⟩))
  (try simp only [Act.put, List.setIfInBounds_toArray, List.set_cons_zero, List.set_cons_succ])
  go_cut [27] (fun v27 wc => ∃ (kq : Nat) (x27_6 : Bool), v27 = .bool x27_6 ∧ Aside0 (l06_HunkBack.j0 kq l0 l1 x27_6 = some r) ∧ Aside0 (kq ≤ k) ∧ Aside0 (Kd.V Kd.string 9 wc w.heap.size (fun k_ => ((P0_ k_ ∨ P1_ k_) ∨ w.heap.size ≤ k_)) (.slice A0 l0.length c0) l0) ∧ Aside0 (Kd.V Kd.string 9 wc w.heap.size (fun k_ => ((P0_ k_ ∨ P1_ k_) ∨ w.heap.size ≤ k_)) (.slice A1 l1.length c1) l1) ∧ Aside0 (Below w.heap.size w wc))
  case first =>
   have H := HC7.out
   clear HC7
   by_cases c9 : t394 = true
   ·subst c9
    have H1 : (l06_HunkBack.j0 k l0 l1 (!t395)) = some r := by rw [if_pos rfl] at H; exact H
    clear H
    have H := H1
    clear H1
    have H' := Zm H
    clear H
    go_wp2
    go_meet
    case rel => exact ⟨_, (!t395), (by first | rfl | (simp; done) | (simp [*]; done)), H', ⟨by first | omega | exact Nat.le_refl _⟩, ⟨by (with_reducible repeat (first | apply Kd.V_alloc | apply Kd.V_drewN | apply Kd.V_drew)); exact HO0.out⟩, ⟨by (with_reducible repeat (first | apply Kd.V_alloc | apply Kd.V_drewN | apply Kd.V_drew)); exact HO1.out⟩, ⟨by repeat (first | (with_reducible first | exact HB.out | apply below_alloc | apply Zd | apply below_drew1) | exact HB.out)⟩⟩
   ·replace c9 := Bool.eq_false_iff.mpr c9
    subst c9
    have H1 : (l06_HunkBack.j0 k l0 l1 true) = some r := by rw [if_neg (show ¬ (false = true) by decide)] at H; exact H
    clear H
    have H := H1
    clear H1
    have H' := Zm H
    clear H
    go_wp2
    go_meet
    case rel => exact ⟨_, (true), (by first | rfl | (simp; done) | (simp [*]; done)), H', ⟨by first | omega | exact Nat.le_refl _⟩, ⟨by (with_reducible repeat (first | apply Kd.V_alloc | apply Kd.V_drewN | apply Kd.V_drew)); exact HO0.out⟩, ⟨by (with_reducible repeat (first | apply Kd.V_alloc | apply Kd.V_drewN | apply Kd.V_drew)); exact HO1.out⟩, ⟨by repeat (first | (with_reducible first | exact HB.out | apply below_alloc | apply Zd | apply below_drew1) | exact HB.out)⟩⟩
  case rest =>
   clear HC7
   try clear c1
   try clear p2
   try clear c4
   try clear c5
   try clear c7
   try clear c9
   obtain ⟨kq, x27_6, rfl, HA, HJ6, HO_0, HO_1, HB⟩ := hcut
   cases kq with
   | zero => exact absurd HA.out (by simp [l06_HunkBack.j0])
   | succ kj6 =>
    have H := HA.out
    clear HA
    simp only [l06_HunkBack.j0] at H
    by_cases c10 : x27_6 = true
    ·subst c10
     have H1 : (some true) = some r := by rw [if_pos rfl] at H; exact H
     clear H
     have H := H1
     clear H1
     obtain rfl := Option.some.inj H
     go_wp2
     go_ret
     exact ⟨by first | rfl | (simp [errW_none, errW_some] <;> rfl) | (simp [*, errW_none, errW_some] <;> rfl), by repeat (first | (with_reducible first | exact HB.out | apply below_alloc | apply Zd | apply below_drew1) | exact HB.out)⟩
    ·replace c10 := Bool.eq_false_iff.mpr c10
     subst c10
     have H1 : ((hunk_Texts.f kj6 l0 l1).bind fun t396 => ((hunk_Patch.f kj6 l0 t396 l1).bind fun bt399 => ((hunk_Invert.f kj6 t396).bind fun t403 => ((hunk_Patch.f kj6 l1 t403 l0).bind fun bt406 => ((r05_Numbers.f kj6 (([l0, l1] : List (List ByteArray)))).bind fun t413 => (if 0 < (t413.length : Int) then (if 1 < (t413.length : Int) then ((r05_Length.f kj6 (rd_L2 t413 0) (rd_L2 t413 1)).bind fun t418 => (if bt399.2 = 0 then (if bt406.2 = 0 then ((r01_Same.f kj6 bt399.1 l1).bind fun t419 => (if t419 = true then ((r01_Same.f kj6 bt406.1 l0).bind fun t420 => (if t420 = true then ((hunk_Cost.f kj6 t396).bind fun t421 => (if t421 = (wrap64 ((wrap64 ((l0.length : Int) + (l1.length : Int))) - (wrap64 (2 * t418)))) then ((hunk_Invert.f kj6 t396).bind fun t422 => ((hunk_Invert.f kj6 t422).bind fun t425 => ((r06_Same.f kj6 t425 t396).bind fun t428 => (some t428)))) else (none))) else (none))) else (none))) else (none)) else (none))) else (none)) else (none))))))) = some r := by rw [if_neg (show ¬ (false = true) by decide)] at H; exact H
     clear H
     have H := H1
     clear H1
     replace H := Option.bind_eq_some_iff.mp H
     obtain ⟨t396, A110, H⟩ := H
     replace H : ((hunk_Patch.f kj6 l0 t396 l1).bind fun bt399 => ((hunk_Invert.f kj6 t396).bind fun t403 => ((hunk_Patch.f kj6 l1 t403 l0).bind fun bt406 => ((r05_Numbers.f kj6 (([l0, l1] : List (List ByteArray)))).bind fun t413 => (if 0 < (t413.length : Int) then (if 1 < (t413.length : Int) then ((r05_Length.f kj6 (rd_L2 t413 0) (rd_L2 t413 1)).bind fun t418 => (if bt399.2 = 0 then (if bt406.2 = 0 then ((r01_Same.f kj6 bt399.1 l1).bind fun t419 => (if t419 = true then ((r01_Same.f kj6 bt406.1 l0).bind fun t420 => (if t420 = true then ((hunk_Cost.f kj6 t396).bind fun t421 => (if t421 = (wrap64 ((wrap64 ((l0.length : Int) + (l1.length : Int))) - (wrap64 (2 * t418)))) then ((hunk_Invert.f kj6 t396).bind fun t422 => ((hunk_Invert.f kj6 t422).bind fun t425 => ((r06_Same.f kj6 t425 t396).bind fun t428 => (some t428)))) else (none))) else (none))) else (none))) else (none)) else (none))) else (none)) else (none)))))) = some r := H
     have A11 := Zm A110
     clear A110
     replace H := Option.bind_eq_some_iff.mp H
     obtain ⟨⟨t399, t400⟩, A120, H⟩ := H
     replace H : ((hunk_Invert.f kj6 t396).bind fun t403 => ((hunk_Patch.f kj6 l1 t403 l0).bind fun bt406 => ((r05_Numbers.f kj6 (([l0, l1] : List (List ByteArray)))).bind fun t413 => (if 0 < (t413.length : Int) then (if 1 < (t413.length : Int) then ((r05_Length.f kj6 (rd_L2 t413 0) (rd_L2 t413 1)).bind fun t418 => (if t400 = 0 then (if bt406.2 = 0 then ((r01_Same.f kj6 t399 l1).bind fun t419 => (if t419 = true then ((r01_Same.f kj6 bt406.1 l0).bind fun t420 => (if t420 = true then ((hunk_Cost.f kj6 t396).bind fun t421 => (if t421 = (wrap64 ((wrap64 ((l0.length : Int) + (l1.length : Int))) - (wrap64 (2 * t418)))) then ((hunk_Invert.f kj6 t396).bind fun t422 => ((hunk_Invert.f kj6 t422).bind fun t425 => ((r06_Same.f kj6 t425 t396).bind fun t428 => (some t428)))) else (none))) else (none))) else (none))) else (none)) else (none))) else (none)) else (none))))) = some r := H
     have A12 := Zm A120
     clear A120
     replace H := Option.bind_eq_some_iff.mp H
     obtain ⟨t403, A130, H⟩ := H
     replace H : ((hunk_Patch.f kj6 l1 t403 l0).bind fun bt406 => ((r05_Numbers.f kj6 (([l0, l1] : List (List ByteArray)))).bind fun t413 => (if 0 < (t413.length : Int) then (if 1 < (t413.length : Int) then ((r05_Length.f kj6 (rd_L2 t413 0) (rd_L2 t413 1)).bind fun t418 => (if t400 = 0 then (if bt406.2 = 0 then ((r01_Same.f kj6 t399 l1).bind fun t419 => (if t419 = true then ((r01_Same.f kj6 bt406.1 l0).bind fun t420 => (if t420 = true then ((hunk_Cost.f kj6 t396).bind fun t421 => (if t421 = (wrap64 ((wrap64 ((l0.length : Int) + (l1.length : Int))) - (wrap64 (2 * t418)))) then ((hunk_Invert.f kj6 t396).bind fun t422 => ((hunk_Invert.f kj6 t422).bind fun t425 => ((r06_Same.f kj6 t425 t396).bind fun t428 => (some t428)))) else (none))) else (none))) else (none))) else (none)) else (none))) else (none)) else (none)))) = some r := H
     have A13 := Zm A130
     clear A130
     replace H := Option.bind_eq_some_iff.mp H
     obtain ⟨⟨t406, t407⟩, A140, H⟩ := H
     replace H : ((r05_Numbers.f kj6 (([l0, l1] : List (List ByteArray)))).bind fun t413 => (if 0 < (t413.length : Int) then (if 1 < (t413.length : Int) then ((r05_Length.f kj6 (rd_L2 t413 0) (rd_L2 t413 1)).bind fun t418 => (if t400 = 0 then (if t407 = 0 then ((r01_Same.f kj6 t399 l1).bind fun t419 => (if t419 = true then ((r01_Same.f kj6 t406 l0).bind fun t420 => (if t420 = true then ((hunk_Cost.f kj6 t396).bind fun t421 => (if t421 = (wrap64 ((wrap64 ((l0.length : Int) + (l1.length : Int))) - (wrap64 (2 * t418)))) then ((hunk_Invert.f kj6 t396).bind fun t422 => ((hunk_Invert.f kj6 t422).bind fun t425 => ((r06_Same.f kj6 t425 t396).bind fun t428 => (some t428)))) else (none))) else (none))) else (none))) else (none)) else (none))) else (none)) else (none))) = some r := H
     have A14 := Zm A140
     clear A140
     obtain ⟨y410, hy410⟩ : ∃ y_ : List (List ByteArray), y_ = (([l0, l1] : List (List ByteArray))) := ⟨_, rfl⟩
     replace H : ((r05_Numbers.f kj6 y410).bind fun t413 => (if 0 < (t413.length : Int) then (if 1 < (t413.length : Int) then ((r05_Length.f kj6 (rd_L2 t413 0) (rd_L2 t413 1)).bind fun t418 => (if t400 = 0 then (if t407 = 0 then ((r01_Same.f kj6 t399 l1).bind fun t419 => (if t419 = true then ((r01_Same.f kj6 t406 l0).bind fun t420 => (if t420 = true then ((hunk_Cost.f kj6 t396).bind fun t421 => (if t421 = (wrap64 ((wrap64 ((l0.length : Int) + (l1.length : Int))) - (wrap64 (2 * t418)))) then ((hunk_Invert.f kj6 t396).bind fun t422 => ((hunk_Invert.f kj6 t422).bind fun t425 => ((r06_Same.f kj6 t425 t396).bind fun t428 => (some t428)))) else (none))) else (none))) else (none))) else (none)) else (none))) else (none)) else (none))) = some r := by first | (rw [hy410]; with_reducible exact H) | (have H2_ := (Option.bind_some _ _).symm.trans H; rw [hy410]; with_reducible exact H2_) | (have H2_ := (Option.bind_some _ _).symm.trans H; with_reducible exact H2_) | with_reducible exact H | (rw [hy410]; exact H) | exact H
     have Ny410 := Zm hy410
     clear hy410
     replace H := Option.bind_eq_some_iff.mp H
     obtain ⟨t413, A150, H⟩ := H
     replace H : (if 0 < (t413.length : Int) then (if 1 < (t413.length : Int) then ((r05_Length.f kj6 (rd_L2 t413 0) (rd_L2 t413 1)).bind fun t418 => (if t400 = 0 then (if t407 = 0 then ((r01_Same.f kj6 t399 l1).bind fun t419 => (if t419 = true then ((r01_Same.f kj6 t406 l0).bind fun t420 => (if t420 = true then ((hunk_Cost.f kj6 t396).bind fun t421 => (if t421 = (wrap64 ((wrap64 ((l0.length : Int) + (l1.length : Int))) - (wrap64 (2 * t418)))) then ((hunk_Invert.f kj6 t396).bind fun t422 => ((hunk_Invert.f kj6 t422).bind fun t425 => ((r06_Same.f kj6 t425 t396).bind fun t428 => (some t428)))) else (none))) else (none))) else (none))) else (none)) else (none))) else (none)) else (none)) = some r := H
     have A15 := Zm A150
     clear A150
     by_cases c16 : 0 < (t413.length : Int)
     ·rw [if_pos c16] at H
      have c16b0 : decide (0 < (t413.length : Int)) = true := decide_eq_true c16
      have c16b1 : decide (0 < t413.length) = true := decide_eq_true (by omega)
      clear c16
      by_cases c17 : 1 < (t413.length : Int)
      ·rw [if_pos c17] at H
       have c17b0 : decide (1 < (t413.length : Int)) = true := decide_eq_true c17
       have c17b1 : decide (1 < t413.length) = true := decide_eq_true (by omega)
       clear c17
       replace H := Option.bind_eq_some_iff.mp H
       obtain ⟨t418, A180, H⟩ := H
       replace H : (if t400 = 0 then (if t407 = 0 then ((r01_Same.f kj6 t399 l1).bind fun t419 => (if t419 = true then ((r01_Same.f kj6 t406 l0).bind fun t420 => (if t420 = true then ((hunk_Cost.f kj6 t396).bind fun t421 => (if t421 = (wrap64 ((wrap64 ((l0.length : Int) + (l1.length : Int))) - (wrap64 (2 * t418)))) then ((hunk_Invert.f kj6 t396).bind fun t422 => ((hunk_Invert.f kj6 t422).bind fun t425 => ((r06_Same.f kj6 t425 t396).bind fun t428 => (some t428)))) else (none))) else (none))) else (none))) else (none)) else (none)) = some r := H
       have A18 := Zm A180
       clear A180
       by_cases c19 : t400 = 0
       ·rw [if_pos c19] at H
        have c19b0 : (t400 == 0) = true := beq_iff_eq.mpr c19
        have c19b1 : (t400 != 0) = false := bne_eq_false_iff_eq.mpr c19
        clear c19
        by_cases c20 : t407 = 0
        ·rw [if_pos c20] at H
         have c20b0 : (t407 == 0) = true := beq_iff_eq.mpr c20
         have c20b1 : (t407 != 0) = false := bne_eq_false_iff_eq.mpr c20
         clear c20
         replace H := Option.bind_eq_some_iff.mp H
         obtain ⟨t419, A210, H⟩ := H
         replace H : (if t419 = true then ((r01_Same.f kj6 t406 l0).bind fun t420 => (if t420 = true then ((hunk_Cost.f kj6 t396).bind fun t421 => (if t421 = (wrap64 ((wrap64 ((l0.length : Int) + (l1.length : Int))) - (wrap64 (2 * t418)))) then ((hunk_Invert.f kj6 t396).bind fun t422 => ((hunk_Invert.f kj6 t422).bind fun t425 => ((r06_Same.f kj6 t425 t396).bind fun t428 => (some t428)))) else (none))) else (none))) else (none)) = some r := H
         have A21 := Zm A210
         clear A210
         by_cases c22 : t419 = true
         ·subst c22
          have H1 : ((r01_Same.f kj6 t406 l0).bind fun t420 => (if t420 = true then ((hunk_Cost.f kj6 t396).bind fun t421 => (if t421 = (wrap64 ((wrap64 ((l0.length : Int) + (l1.length : Int))) - (wrap64 (2 * t418)))) then ((hunk_Invert.f kj6 t396).bind fun t422 => ((hunk_Invert.f kj6 t422).bind fun t425 => ((r06_Same.f kj6 t425 t396).bind fun t428 => (some t428)))) else (none))) else (none))) = some r := by rw [if_pos rfl] at H; exact H
          clear H
          have H := H1
          clear H1
          replace H := Option.bind_eq_some_iff.mp H
          obtain ⟨t420, A230, H⟩ := H
          replace H : (if t420 = true then ((hunk_Cost.f kj6 t396).bind fun t421 => (if t421 = (wrap64 ((wrap64 ((l0.length : Int) + (l1.length : Int))) - (wrap64 (2 * t418)))) then ((hunk_Invert.f kj6 t396).bind fun t422 => ((hunk_Invert.f kj6 t422).bind fun t425 => ((r06_Same.f kj6 t425 t396).bind fun t428 => (some t428)))) else (none))) else (none)) = some r := H
          have A23 := Zm A230
          clear A230
          by_cases c24 : t420 = true
          ·subst c24
           have H1 : ((hunk_Cost.f kj6 t396).bind fun t421 => (if t421 = (wrap64 ((wrap64 ((l0.length : Int) + (l1.length : Int))) - (wrap64 (2 * t418)))) then ((hunk_Invert.f kj6 t396).bind fun t422 => ((hunk_Invert.f kj6 t422).bind fun t425 => ((r06_Same.f kj6 t425 t396).bind fun t428 => (some t428)))) else (none))) = some r := by rw [if_pos rfl] at H; exact H
           clear H
           have H := H1
           clear H1
           replace H := Option.bind_eq_some_iff.mp H
           obtain ⟨t421, A250, H⟩ := H
           replace H : (if t421 = (wrap64 ((wrap64 ((l0.length : Int) + (l1.length : Int))) - (wrap64 (2 * t418)))) then ((hunk_Invert.f kj6 t396).bind fun t422 => ((hunk_Invert.f kj6 t422).bind fun t425 => ((r06_Same.f kj6 t425 t396).bind fun t428 => (some t428)))) else (none)) = some r := H
           have A25 := Zm A250
           clear A250
           by_cases c26 : t421 = (wrap64 ((wrap64 ((l0.length : Int) + (l1.length : Int))) - (wrap64 (2 * t418))))
           ·rw [if_pos c26] at H
            have c26b0 : (t421 == (wrap64 ((wrap64 ((l0.length : Int) + (l1.length : Int))) - (wrap64 (2 * t418))))) = true := beq_iff_eq.mpr c26
            have c26b1 : (t421 != (wrap64 ((wrap64 ((l0.length : Int) + (l1.length : Int))) - (wrap64 (2 * t418))))) = false := bne_eq_false_iff_eq.mpr c26
            clear c26
            replace H := Option.bind_eq_some_iff.mp H
            obtain ⟨t422, A270, H⟩ := H
            replace H : ((hunk_Invert.f kj6 t422).bind fun t425 => ((r06_Same.f kj6 t425 t396).bind fun t428 => (some t428))) = some r := H
            have A27 := Zm A270
            clear A270
            replace H := Option.bind_eq_some_iff.mp H
            obtain ⟨t425, A280, H⟩ := H
            replace H : ((r06_Same.f kj6 t425 t396).bind fun t428 => (some t428)) = some r := H
            have A28 := Zm A280
            clear A280
            replace H := Option.bind_eq_some_iff.mp H
            obtain ⟨t428, A290, H⟩ := H
            replace H : (some t428) = some r := H
            have A29 := Zm A290
            clear A290
            obtain rfl := Option.some.inj H
            try go_wp2_with (first | ((with_reducible refine gate_callee (f := 11) rfl ?_); refine goesL_ (some 30) rfl rfl Try.func11 (by kernel_rfl) rfl #[.slice A0 l0.length c0, .slice A1 l1.length c1] rfl (by (try simp only [List.map_toArray, List.map_cons, List.map_nil]); first | done | rfl | (simp only [List.length_drop, List.length_take]; rfl)) ?_; (with_reducible refine (hunk_Texts.calls kj6 _ _ l0 _ _ l1 t396 _ ?side1 ?side2 ?side3 ?side4 A11.out).mono ?_); (case side1 => repeat (first | exact (Kd.V_reads' HO_0.out).2.2 | (with_reducible refine Kd.C_alloc ?_ _) | (with_reducible refine Kd.C_drewN ?_ _) | (with_reducible refine Kd.C_drew ?_))); (case side2 => exact (Kd.V_reads' HO_0.out).2.1); (case side3 => repeat (first | exact (Kd.V_reads' HO_1.out).2.2 | (with_reducible refine Kd.C_alloc ?_ _) | (with_reducible refine Kd.C_drewN ?_ _) | (with_reducible refine Kd.C_drew ?_))); (case side4 => exact (Kd.V_reads' HO_1.out).2.1); rintro e w30 ⟨v397, rfl, ho0, hb⟩; refine ⟨_, rfl, ?_⟩; have n0_ := Zm (Kd.V_elder' (by (with_reducible repeat (first | apply Kd.V_alloc | apply Kd.V_drewN | apply Kd.V_drew)); exact HO_0.out) (Kd.R_base ho0) hb); have n1_ := Zm (Kd.V_elder' (by (with_reducible repeat (first | apply Kd.V_alloc | apply Kd.V_drewN | apply Kd.V_drew)); exact HO_1.out) (Kd.R_base ho0) hb); have n2_ := Zm (Kd.R_lower (Kd.R_newM (M := fun k_ => (w.heap.size ≤ k_)) ho0 (below_size (by repeat (first | (with_reducible first | exact HB.out | apply below_alloc | apply Zd | apply below_drew1) | exact HB.out))) (fun k_ h_ => h_)) (below_size (by repeat (first | (with_reducible first | exact HB.out | apply below_alloc | apply Zd | apply below_drew1) | exact HB.out)))); have n3_ := Zm (below_step (by repeat (first | (with_reducible first | exact HB.out | apply below_alloc | apply Zd | apply below_drew1) | exact HB.out)) hb); clear HO_0; clear HO_1; clear HB; have HO_0 := n0_; have HO_1 := n1_; have HO398 := n2_; have HB := n3_; clear n0_ n1_ n2_ n3_; (try clear hb); (try clear hb2); (try clear hk); (try clear hi); (try clear ho0); obtain ⟨Ao31, co31, eo31⟩ := Kd.R_slice HO398.out; subst eo31) | ((with_reducible refine gate_callee (f := 14) rfl ?_); refine goesL_ (some 35) rfl rfl Try.func14 (by kernel_rfl) rfl #[.slice A0 l0.length c0, .slice Ao31 t396.length co31, .slice A1 l1.length c1] rfl (by (try simp only [List.map_toArray, List.map_cons, List.map_nil]); first | done | rfl | (simp only [List.length_drop, List.length_take]; rfl)) ?_; (with_reducible refine (hunk_Patch.calls kj6 _ _ l0 _ _ t396 _ _ l1 t399 t400 _ ?side1 ?side2 ?side3 ?side4 ?side5 ?side6 A12.out).mono ?_); (case side1 => repeat (first | exact (Kd.V_reads' HO_0.out).2.2 | (with_reducible refine Kd.C_alloc ?_ _) | (with_reducible refine Kd.C_drewN ?_ _) | (with_reducible refine Kd.C_drew ?_))); (case side2 => exact (Kd.V_reads' HO_0.out).2.1); (case side3 => repeat (first | exact (Kd.R_reads' HO398.out).2.2 | (with_reducible refine Kd.C_alloc ?_ _) | (with_reducible refine Kd.C_drewN ?_ _) | (with_reducible refine Kd.C_drew ?_))); (case side4 => exact (Kd.R_reads' HO398.out).2.1); (case side5 => repeat (first | exact (Kd.V_reads' HO_1.out).2.2 | (with_reducible refine Kd.C_alloc ?_ _) | (with_reducible refine Kd.C_drewN ?_ _) | (with_reducible refine Kd.C_drew ?_))); (case side6 => exact (Kd.V_reads' HO_1.out).2.1); rintro e w32 ⟨v401, rfl, ho0, hb⟩; refine ⟨_, rfl, ?_⟩; have n0_ := Zm (Kd.V_elder' (by (with_reducible repeat (first | apply Kd.V_alloc | apply Kd.V_drewN | apply Kd.V_drew)); exact HO_0.out) (Kd.R_base ho0) hb); have n1_ := Zm (Kd.V_elder' (by (with_reducible repeat (first | apply Kd.V_alloc | apply Kd.V_drewN | apply Kd.V_drew)); exact HO_1.out) (Kd.R_base ho0) hb); have n2_ := Zm (Kd.R_below (by (with_reducible repeat (first | apply Kd.R_alloc | apply Kd.R_drewN | apply Kd.R_drew)); exact HO398.out) hb); have n3_ := Zm (Kd.R_lower (Kd.R_newM (M := fun k_ => (w.heap.size ≤ k_)) ho0 (below_size (by repeat (first | (with_reducible first | exact HB.out | apply below_alloc | apply Zd | apply below_drew1) | exact HB.out))) (fun k_ h_ => h_)) (below_size (by repeat (first | (with_reducible first | exact HB.out | apply below_alloc | apply Zd | apply below_drew1) | exact HB.out)))); have n4_ := Zm (below_step (by repeat (first | (with_reducible first | exact HB.out | apply below_alloc | apply Zd | apply below_drew1) | exact HB.out)) hb); clear HO_0; clear HO_1; clear HO398; clear HB; have HO_0 := n0_; have HO_1 := n1_; have HO398 := n2_; have HO402 := n3_; have HB := n4_; clear n0_ n1_ n2_ n3_ n4_; (try clear hb); (try clear hb2); (try clear hk); (try clear hi); (try clear ho0)) | ((with_reducible refine gate_callee (f := 19) rfl ?_); refine goesL_ (some 41) rfl rfl Try.func19 (by kernel_rfl) rfl #[.slice Ao31 t396.length co31] rfl (by (try simp only [List.map_toArray, List.map_cons, List.map_nil]); first | done | rfl | (simp only [List.length_drop, List.length_take]; rfl)) ?_; (with_reducible refine (hunk_Invert.calls kj6 _ _ t396 t403 _ ?side1 ?side2 A13.out).mono ?_); (case side1 => repeat (first | exact (Kd.R_reads' HO398.out).2.2 | (with_reducible refine Kd.C_alloc ?_ _) | (with_reducible refine Kd.C_drewN ?_ _) | (with_reducible refine Kd.C_drew ?_))); (case side2 => exact (Kd.R_reads' HO398.out).2.1); rintro e w33 ⟨v404, rfl, ho0, hb⟩; refine ⟨_, rfl, ?_⟩; have n0_ := Zm (Kd.V_elder' (by (with_reducible repeat (first | apply Kd.V_alloc | apply Kd.V_drewN | apply Kd.V_drew)); exact HO_0.out) (Kd.R_base ho0) hb); have n1_ := Zm (Kd.V_elder' (by (with_reducible repeat (first | apply Kd.V_alloc | apply Kd.V_drewN | apply Kd.V_drew)); exact HO_1.out) (Kd.R_base ho0) hb); have n2_ := Zm (Kd.R_elder' (by (with_reducible repeat (first | apply Kd.R_alloc | apply Kd.R_drewN | apply Kd.R_drew)); exact HO398.out) (Kd.R_base ho0) hb); have n3_ := Zm (Kd.R_below (by (with_reducible repeat (first | apply Kd.R_alloc | apply Kd.R_drewN | apply Kd.R_drew)); exact HO402.out) hb); have n4_ := Zm (Kd.R_lower (Kd.R_new' (Kd.R_newM (M := fun k_ => (w.heap.size ≤ k_)) ho0 (below_size (by repeat (first | (with_reducible first | exact HB.out | apply below_alloc | apply Zd | apply below_drew1) | exact HB.out))) (fun k_ h_ => h_)) (Kd.R_lt (by (with_reducible repeat (first | apply Kd.R_alloc | apply Kd.R_drewN | apply Kd.R_drew)); exact HO398.out))) (below_size (by repeat (first | (with_reducible first | exact HB.out | apply below_alloc | apply Zd | apply below_drew1) | exact HB.out)))); have n5_ := Zm (below_step (by repeat (first | (with_reducible first | exact HB.out | apply below_alloc | apply Zd | apply below_drew1) | exact HB.out)) hb); clear HO_0; clear HO_1; clear HO398; clear HO402; clear HB; have HO_0 := n0_; have HO_1 := n1_; have HO398 := n2_; have HO402 := n3_; have HO405 := n4_; have HB := n5_; clear n0_ n1_ n2_ n3_ n4_ n5_; (try clear hb); (try clear hb2); (try clear hk); (try clear hi); (try clear ho0); obtain ⟨Ao34, co34, eo34⟩ := Kd.R_slice HO405.out; subst eo34) | ((with_reducible refine gate_callee (f := 14) rfl ?_); refine goesL_ (some 43) rfl rfl Try.func14 (by kernel_rfl) rfl #[.slice A1 l1.length c1, .slice Ao34 t403.length co34, .slice A0 l0.length c0] rfl (by (try simp only [List.map_toArray, List.map_cons, List.map_nil]); first | done | rfl | (simp only [List.length_drop, List.length_take]; rfl)) ?_; (with_reducible refine (hunk_Patch.calls kj6 _ _ l1 _ _ t403 _ _ l0 t406 t407 _ ?side1 ?side2 ?side3 ?side4 ?side5 ?side6 A14.out).mono ?_); (case side1 => repeat (first | exact (Kd.V_reads' HO_1.out).2.2 | (with_reducible refine Kd.C_alloc ?_ _) | (with_reducible refine Kd.C_drewN ?_ _) | (with_reducible refine Kd.C_drew ?_))); (case side2 => exact (Kd.V_reads' HO_1.out).2.1); (case side3 => repeat (first | exact (Kd.R_reads' HO405.out).2.2 | (with_reducible refine Kd.C_alloc ?_ _) | (with_reducible refine Kd.C_drewN ?_ _) | (with_reducible refine Kd.C_drew ?_))); (case side4 => exact (Kd.R_reads' HO405.out).2.1); (case side5 => repeat (first | exact (Kd.V_reads' HO_0.out).2.2 | (with_reducible refine Kd.C_alloc ?_ _) | (with_reducible refine Kd.C_drewN ?_ _) | (with_reducible refine Kd.C_drew ?_))); (case side6 => exact (Kd.V_reads' HO_0.out).2.1); rintro e w35 ⟨v408, rfl, ho0, hb⟩; refine ⟨_, rfl, ?_⟩; have n0_ := Zm (Kd.V_elder' (by (with_reducible repeat (first | apply Kd.V_alloc | apply Kd.V_drewN | apply Kd.V_drew)); exact HO_0.out) (Kd.R_base ho0) hb); have n1_ := Zm (Kd.V_elder' (by (with_reducible repeat (first | apply Kd.V_alloc | apply Kd.V_drewN | apply Kd.V_drew)); exact HO_1.out) (Kd.R_base ho0) hb); have n2_ := Zm (Kd.R_below (by (with_reducible repeat (first | apply Kd.R_alloc | apply Kd.R_drewN | apply Kd.R_drew)); exact HO398.out) hb); have n3_ := Zm (Kd.R_elder' (by (with_reducible repeat (first | apply Kd.R_alloc | apply Kd.R_drewN | apply Kd.R_drew)); exact HO402.out) (Kd.R_base ho0) hb); have n4_ := Zm (Kd.R_below (by (with_reducible repeat (first | apply Kd.R_alloc | apply Kd.R_drewN | apply Kd.R_drew)); exact HO405.out) hb); have n5_ := Zm (Kd.R_lower (Kd.R_new' (Kd.R_newM (M := fun k_ => (w.heap.size ≤ k_)) ho0 (below_size (by repeat (first | (with_reducible first | exact HB.out | apply below_alloc | apply Zd | apply below_drew1) | exact HB.out))) (fun k_ h_ => h_)) (Kd.R_lt (by (with_reducible repeat (first | apply Kd.R_alloc | apply Kd.R_drewN | apply Kd.R_drew)); exact HO402.out))) (below_size (by repeat (first | (with_reducible first | exact HB.out | apply below_alloc | apply Zd | apply below_drew1) | exact HB.out)))); have n6_ := Zm (below_step (by repeat (first | (with_reducible first | exact HB.out | apply below_alloc | apply Zd | apply below_drew1) | exact HB.out)) hb); clear HO_0; clear HO_1; clear HO398; clear HO402; clear HO405; clear HB; have HO_0 := n0_; have HO_1 := n1_; have HO398 := n2_; have HO402 := n3_; have HO405 := n4_; have HO409 := n5_; have HB := n6_; clear n0_ n1_ n2_ n3_ n4_ n5_ n6_; (try clear hb); (try clear hb2); (try clear hk); (try clear hi); (try clear ho0)) | ((with_reducible refine gate_dst (N := 48) rfl ?_); (try (refine gate_guard (by rfl) ?_; dsimp only)); refine Kd.N_lit (Kd.slice 9 Kd.string) _ 25 ?hg (N' := 48) ?hd (xs := ([l0, l1] : List (List ByteArray))) (inner := [.slice A0 l0.length c0, .slice A1 l1.length c1]) (ok := (fun k_ => ((P0_ k_ ∨ P1_ k_) ∨ w.heap.size ≤ k_) ∧ some k_ ≠ (.slice Ao31 t396.length co31 : Value).ownBlock ∧ some k_ ≠ (v401 : Value).ownBlock ∧ some k_ ≠ (.slice Ao34 t403.length co34 : Value).ownBlock ∧ some k_ ≠ (v408 : Value).ownBlock)) (okp := (fun k_ => ((P0_ k_ ∨ P1_ k_) ∨ w.heap.size ≤ k_) ∧ some k_ ≠ (.slice Ao31 t396.length co31 : Value).ownBlock ∧ some k_ ≠ (v401 : Value).ownBlock ∧ some k_ ≠ (.slice Ao34 t403.length co34 : Value).ownBlock ∧ some k_ ≠ (v408 : Value).ownBlock)) ?hr ?hp (fun _ hk => hk) ((show ∀ k_, w35.heap.size ≤ k_ → (fun k_ => ((P0_ k_ ∨ P1_ k_) ∨ w.heap.size ≤ k_) ∧ some k_ ≠ (.slice Ao31 t396.length co31 : Value).ownBlock ∧ some k_ ≠ (v401 : Value).ownBlock ∧ some k_ ≠ (.slice Ao34 t403.length co34 : Value).ownBlock ∧ some k_ ≠ (v408 : Value).ownBlock) k_ from fun k_ hk => ⟨(.inr (Nat.le_trans (below_size (by repeat (first | (with_reducible first | exact HB.out | apply below_alloc | apply Zd | apply below_drew1) | exact HB.out))) hk)), Kd.fresh' (Kd.R_lt (by (with_reducible repeat (first | apply Kd.R_alloc | apply Kd.R_drewN | apply Kd.R_drew)); exact HO398.out)) k_ hk, Kd.fresh' (Kd.R_lt (by (with_reducible repeat (first | apply Kd.R_alloc | apply Kd.R_drewN | apply Kd.R_drew)); exact HO402.out)) k_ hk, Kd.fresh' (Kd.R_lt (by (with_reducible repeat (first | apply Kd.R_alloc | apply Kd.R_drewN | apply Kd.R_drew)); exact HO405.out)) k_ hk, Kd.fresh' (Kd.R_lt (by (with_reducible repeat (first | apply Kd.R_alloc | apply Kd.R_drewN | apply Kd.R_drew)); exact HO409.out)) k_ hk⟩) _ (Nat.le_refl _)) (Below.refl _ _) (Nat.le_refl _) (by simp) ?_; (case hd => rfl); (case hg => rfl); (case hr => first | (go_simp; done) | (go_simp; rfl)); (case hp => exact (Reps.one (show Kd.FK (Kd.slice 9 Kd.string) _ _ l0 [.slice A0 l0.length c0] from (Kd.FK_slice_mk (Kd.V_reads' (Kd.V_mono (ok' := (fun k_ => ((P0_ k_ ∨ P1_ k_) ∨ w.heap.size ≤ k_) ∧ some k_ ≠ (.slice Ao31 t396.length co31 : Value).ownBlock ∧ some k_ ≠ (v401 : Value).ownBlock ∧ some k_ ≠ (.slice Ao34 t403.length co34 : Value).ownBlock ∧ some k_ ≠ (v408 : Value).ownBlock)) (HO_0.out) (fun k_ hk => ⟨hk.1.1.1.1, ⟨hk.1.1.1.2, ⟨hk.1.1.2, ⟨hk.1.2, hk.2⟩⟩⟩⟩))).2.1 (Kd.V_F (Kd.V_mono (ok' := (fun k_ => ((P0_ k_ ∨ P1_ k_) ∨ w.heap.size ≤ k_) ∧ some k_ ≠ (.slice Ao31 t396.length co31 : Value).ownBlock ∧ some k_ ≠ (v401 : Value).ownBlock ∧ some k_ ≠ (.slice Ao34 t403.length co34 : Value).ownBlock ∧ some k_ ≠ (v408 : Value).ownBlock)) (HO_0.out) (fun k_ hk => ⟨hk.1.1.1.1, ⟨hk.1.1.1.2, ⟨hk.1.1.2, ⟨hk.1.2, hk.2⟩⟩⟩⟩))))) (Reps.one (show Kd.FK (Kd.slice 9 Kd.string) _ _ l1 [.slice A1 l1.length c1] from (Kd.FK_slice_mk (Kd.V_reads' (Kd.V_mono (ok' := (fun k_ => ((P0_ k_ ∨ P1_ k_) ∨ w.heap.size ≤ k_) ∧ some k_ ≠ (.slice Ao31 t396.length co31 : Value).ownBlock ∧ some k_ ≠ (v401 : Value).ownBlock ∧ some k_ ≠ (.slice Ao34 t403.length co34 : Value).ownBlock ∧ some k_ ≠ (v408 : Value).ownBlock)) (HO_1.out) (fun k_ hk => ⟨hk.1.1.1.1, ⟨hk.1.1.1.2, ⟨hk.1.1.2, ⟨hk.1.2, hk.2⟩⟩⟩⟩))).2.1 (Kd.V_F (Kd.V_mono (ok' := (fun k_ => ((P0_ k_ ∨ P1_ k_) ∨ w.heap.size ≤ k_) ∧ some k_ ≠ (.slice Ao31 t396.length co31 : Value).ownBlock ∧ some k_ ≠ (v401 : Value).ownBlock ∧ some k_ ≠ (.slice Ao34 t403.length co34 : Value).ownBlock ∧ some k_ ≠ (v408 : Value).ownBlock)) (HO_1.out) (fun k_ hk => ⟨hk.1.1.1.1, ⟨hk.1.1.1.2, ⟨hk.1.1.2, ⟨hk.1.2, hk.2⟩⟩⟩⟩))))) (Reps.none _ _)))); intro v411 w36 ho37 hb hg_ hnew_; clear hg_ hnew_; (first | rw [← Ny410.out] at ho37 | (simp only [Int.reduceToNat] at ho37; rw [← Ny410.out] at ho37)); have n0_ := Zm (Kd.V_elder' (by (with_reducible repeat (first | apply Kd.V_alloc | apply Kd.V_drewN | apply Kd.V_drew)); exact HO_0.out) (by first | exact Kd.N_base ho37 | exact Kd.S_base ho37 | exact Kd.R_base ho37) hb); have n1_ := Zm (Kd.V_elder' (by (with_reducible repeat (first | apply Kd.V_alloc | apply Kd.V_drewN | apply Kd.V_drew)); exact HO_1.out) (by first | exact Kd.N_base ho37 | exact Kd.S_base ho37 | exact Kd.R_base ho37) hb); have n2_ := Zm (Kd.R_below (by (with_reducible repeat (first | apply Kd.R_alloc | apply Kd.R_drewN | apply Kd.R_drew)); exact HO398.out) hb); have n3_ := Zm (Kd.R_below (by (with_reducible repeat (first | apply Kd.R_alloc | apply Kd.R_drewN | apply Kd.R_drew)); exact HO402.out) hb); have n4_ := Zm (Kd.R_below (by (with_reducible repeat (first | apply Kd.R_alloc | apply Kd.R_drewN | apply Kd.R_drew)); exact HO405.out) hb); have n5_ := Zm (Kd.R_below (by (with_reducible repeat (first | apply Kd.R_alloc | apply Kd.R_drewN | apply Kd.R_drew)); exact HO409.out) hb); have n6_ := Zm (Kd.N_lower ho37 (below_size (by repeat (first | (with_reducible first | exact HB.out | apply below_alloc | apply Zd | apply below_drew1) | exact HB.out)))); have n7_ := Zm (below_step (by repeat (first | (with_reducible first | exact HB.out | apply below_alloc | apply Zd | apply below_drew1) | exact HB.out)) hb); clear HO_0; clear HO_1; clear HO398; clear HO402; clear HO405; clear HO409; clear HB; have HO_0 := n0_; have HO_1 := n1_; have HO398 := n2_; have HO402 := n3_; have HO405 := n4_; have HO409 := n5_; have HO412 := n6_; have HB := n7_; clear n0_ n1_ n2_ n3_ n4_ n5_ n6_ n7_; clear hb ho37; obtain ⟨Ao38, co38, eo38⟩ := Kd.N_slice HO412.out; subst eo38) | ((with_reducible refine gate_callee (f := 22) rfl ?_); refine goesL_ (some 49) rfl rfl Try.func22 (by kernel_rfl) rfl #[.slice Ao38 y410.length co38] rfl (by (try simp only [List.map_toArray, List.map_cons, List.map_nil]); first | done | rfl | (simp only [List.length_drop, List.length_take]; rfl)) ?_; (with_reducible refine (r05_Numbers.calls kj6 _ _ y410 t413 _ ?side1 ?side2 A15.out).mono ?_); (case side1 => repeat (first | exact (Kd.N_reads' HO412.out).2.2 | (with_reducible refine Kd.C_alloc ?_ _) | (with_reducible refine Kd.C_drewN ?_ _) | (with_reducible refine Kd.C_drew ?_))); (case side2 => exact (Kd.N_reads' HO412.out).2.1); rintro e w39 ⟨v414, rfl, ho0, hb⟩; refine ⟨_, rfl, ?_⟩; have n0_ := Zm (Kd.V_elder' (by (with_reducible repeat (first | apply Kd.V_alloc | apply Kd.V_drewN | apply Kd.V_drew)); exact HO_0.out) (by first | exact Kd.N_base ho0 | exact Kd.S_base ho0 | exact Kd.R_base ho0) hb); have n1_ := Zm (Kd.V_elder' (by (with_reducible repeat (first | apply Kd.V_alloc | apply Kd.V_drewN | apply Kd.V_drew)); exact HO_1.out) (by first | exact Kd.N_base ho0 | exact Kd.S_base ho0 | exact Kd.R_base ho0) hb); have n2_ := Zm (Kd.R_below (by (with_reducible repeat (first | apply Kd.R_alloc | apply Kd.R_drewN | apply Kd.R_drew)); exact HO398.out) hb); have n3_ := Zm (Kd.R_below (by (with_reducible repeat (first | apply Kd.R_alloc | apply Kd.R_drewN | apply Kd.R_drew)); exact HO402.out) hb); have n4_ := Zm (Kd.R_below (by (with_reducible repeat (first | apply Kd.R_alloc | apply Kd.R_drewN | apply Kd.R_drew)); exact HO405.out) hb); have n5_ := Zm (Kd.R_below (by (with_reducible repeat (first | apply Kd.R_alloc | apply Kd.R_drewN | apply Kd.R_drew)); exact HO409.out) hb); have n6_ := Zm (Kd.N_elder' (by (with_reducible repeat (first | apply Kd.N_alloc | apply Kd.N_drewN | apply Kd.N_drew)); exact HO412.out) (by first | exact Kd.N_base ho0 | exact Kd.S_base ho0 | exact Kd.R_base ho0) hb); have n7_ := Zm (Kd.N_lower (Kd.N_mono (ok' := fun k_ => ((P0_ k_ ∨ P1_ k_) ∨ w.heap.size ≤ k_) ∧ some k_ ≠ (.slice Ao31 t396.length co31 : Value).ownBlock ∧ some k_ ≠ (v401 : Value).ownBlock ∧ some k_ ≠ (.slice Ao34 t403.length co34 : Value).ownBlock ∧ some k_ ≠ (v408 : Value).ownBlock ∧ some k_ ≠ (.slice Ao38 y410.length co38 : Value).ownBlock) (Kd.S_N (Kd.S_bound ho0)) (fun k_ hk_ => ⟨(.inr (Nat.le_trans (below_size (by repeat (first | (with_reducible first | exact HB.out | apply below_alloc | apply Zd | apply below_drew1) | exact HB.out))) hk_.2.1)), (Kd.fresh' (Kd.R_lt (by (with_reducible repeat (first | apply Kd.R_alloc | apply Kd.R_drewN | apply Kd.R_drew)); exact HO398.out)) k_ hk_.2.1), (Kd.fresh' (Kd.R_lt (by (with_reducible repeat (first | apply Kd.R_alloc | apply Kd.R_drewN | apply Kd.R_drew)); exact HO402.out)) k_ hk_.2.1), (Kd.fresh' (Kd.R_lt (by (with_reducible repeat (first | apply Kd.R_alloc | apply Kd.R_drewN | apply Kd.R_drew)); exact HO405.out)) k_ hk_.2.1), (Kd.fresh' (Kd.R_lt (by (with_reducible repeat (first | apply Kd.R_alloc | apply Kd.R_drewN | apply Kd.R_drew)); exact HO409.out)) k_ hk_.2.1), (Kd.fresh' (Kd.N_lt (by (with_reducible repeat (first | apply Kd.N_alloc | apply Kd.N_drewN | apply Kd.N_drew)); exact HO412.out)) k_ hk_.2.1)⟩)) (below_size (by repeat (first | (with_reducible first | exact HB.out | apply below_alloc | apply Zd | apply below_drew1) | exact HB.out)))); have n8_ := Zm (below_step (by repeat (first | (with_reducible first | exact HB.out | apply below_alloc | apply Zd | apply below_drew1) | exact HB.out)) hb); clear HO_0; clear HO_1; clear HO398; clear HO402; clear HO405; clear HO409; clear HO412; clear HB; have HO_0 := n0_; have HO_1 := n1_; have HO398 := n2_; have HO402 := n3_; have HO405 := n4_; have HO409 := n5_; have HO412 := n6_; have HO415 := n7_; have HB := n8_; clear n0_ n1_ n2_ n3_ n4_ n5_ n6_ n7_ n8_; (try clear hb); (try clear hb2); (try clear hk); (try clear hi); (try clear ho0)))
            have n0_ := Zm (Kd.V_drew HO_0.out)
            have n1_ := Zm (Kd.V_drew HO_1.out)
            have n2_ := Zm (Kd.R_drew HO398.out)
            have n3_ := Zm (Kd.R_drew HO402.out)
            have n4_ := Zm (Kd.R_drew HO405.out)
            have n5_ := Zm (Kd.R_drew HO409.out)
            have n6_ := Zm (Kd.N_drew HO412.out)
            have n7_ := Zm (Kd.N_drew HO415.out)
            have n8_ := Zm (below_drew1 HB.out)
            clear HO_0
            clear HO_1
            clear HO398
            clear HO402
            clear HO405
            clear HO409
            clear HO412
            clear HO415
            clear HB
            have HO_0 := n0_
            have HO_1 := n1_
            have HO398 := n2_
            have HO402 := n3_
            have HO405 := n4_
            have HO409 := n5_
            have HO412 := n6_
            have HO415 := n7_
            have HB := n8_
            clear n0_ n1_ n2_ n3_ n4_ n5_ n6_ n7_ n8_
            obtain ⟨Ao41, co41, eo41⟩ := Kd.N_slice HO415.out
            (first | subst eo41 | (injection eo41 with f1_ f2_ f3_; have f4_ := f1_.symm; have f5_ := f3_.symm; clear f1_ f2_ f3_; subst f4_; subst f5_))
            have p416 : 0 ≤ (0 : Int) := (by omega)
            have q416 : 0 < (t413.length : Int) := Zo (by first | (with_reducible assumption) | assumption)
            obtain ⟨ad416, A416_0, c416_0, e416, hx416_0, hl416_0, hi416_0⟩ := at_L2 (Kd.N_reads' HO415.out).2.2 0 p416 q416
            cases e416
            obtain ⟨ce416, hce416, hMe416, hcc416⟩ := Kd.N_get HO415.out [] 0 p416 (by first | exact q416 | exact Zo (by first | (with_reducible assumption) | assumption) | (have e_ := (Kd.N_reads' HO415.out).1; omega))
            obtain ⟨ua416_0, uc416_0, rfl, ul416_0, ge416_0⟩ := Kd.FK_slice_open hMe416
            have hv416_0 := hcc416 0 _ rfl
            rw [Nat.add_zero, show ((Kd.slice 3 (Kd.int .i64))).sz = 1 from rfl, Nat.mul_one] at hv416_0
            replace hv416_0 := Option.some.inj (hv416_0.symm.trans hx416_0)
            injection hv416_0 with hva_ hvn_ hvc_
            rw [hva_] at ge416_0
            rw [hvc_] at ul416_0
            have HL416_0 := Zm (show Kd.V (Kd.int .i64) 3 _ w.heap.size _ _ (rd_L2 t413 0) from Kd.V_mk ul416_0 ge416_0)
            clear hva_ hvn_ hvc_ ge416_0 ul416_0
            clear hcc416 hce416
            have qi416 : (0 < t413.length) = True := eq_true (by omega)
            (try rw [show ((0 : Int)).toNat = 0 from rfl] at hx416_0)
            (try rw [Addr.add_zero'] at hx416_0)
            have HR416_0 := Zm hi416_0
            have HC416_0 := Zm hl416_0
            clear hi416_0 hl416_0
            replace p416 := eq_true p416
            replace q416 := eq_true q416
            have p417 : 0 ≤ (1 : Int) := (by omega)
            have q417 : 1 < (t413.length : Int) := Zo (by first | (with_reducible assumption) | assumption)
            obtain ⟨ad417, A417_0, c417_0, e417, hx417_0, hl417_0, hi417_0⟩ := at_L2 (Kd.N_reads' HO415.out).2.2 1 p417 q417
            obtain rfl : ad416 = ad417 := (by injection e417)
            obtain ⟨ce417, hce417, hMe417, hcc417⟩ := Kd.N_get HO415.out [] 1 p417 (by first | exact q417 | exact Zo (by first | (with_reducible assumption) | assumption) | (have e_ := (Kd.N_reads' HO415.out).1; omega))
            obtain ⟨ua417_0, uc417_0, rfl, ul417_0, ge417_0⟩ := Kd.FK_slice_open hMe417
            have hv417_0 := hcc417 0 _ rfl
            rw [Nat.add_zero, show ((Kd.slice 3 (Kd.int .i64))).sz = 1 from rfl, Nat.mul_one] at hv417_0
            replace hv417_0 := Option.some.inj (hv417_0.symm.trans hx417_0)
            injection hv417_0 with hva_ hvn_ hvc_
            rw [hva_] at ge417_0
            rw [hvc_] at ul417_0
            have HL417_0 := Zm (show Kd.V (Kd.int .i64) 3 _ w.heap.size _ _ (rd_L2 t413 1) from Kd.V_mk ul417_0 ge417_0)
            clear hva_ hvn_ hvc_ ge417_0 ul417_0
            clear hcc417 hce417
            (try simp only [show (1 : Int).toNat = 1 from rfl, Nat.reduceMul, Nat.reduceEqDiff, Go.Addr.add, ↓reduceIte] at hx417_0)
            have qi417 : (1 < t413.length) = True := eq_true (by omega)
            (try rw [show ((1 : Int)).toNat = 1 from rfl] at hx417_0)
            have HR417_0 := Zm hi417_0
            have HC417_0 := Zm hl417_0
            clear hi417_0 hl417_0
            replace p417 := eq_true p417
            replace q417 := eq_true q417
            refine start_ (n := 8) (S := fun w' => w'.cell? ad416 = some (.slice A416_0 (rd_L2 t413 0).length c416_0) ∧ w'.cell? ⟨ad416.block, ad416.off + 1, none⟩ = some (.slice A417_0 (rd_L2 t413 1).length c417_0)) (ds := []) #[false, false, false, false, false, false, false, false] (by kernel_rfl) rfl rfl ⟨hx416_0, hx417_0⟩ (fun hHeld => ?_); refine with_tabW l06_HunkBack.tab12 l06_HunkBack.bits12 (fun HT_ HW_ => ?_)
            generalize w39.drew = w40 at HO_0 HO_1 HO398 HO402 HO405 HO409 HO412 HO415 HB HL416_0 HL417_0 HR416_0 HR417_0 hx416_0 hx417_0 hHeld ⊢
            refine pure_ (i := 0) (N := some 50) (v := ?_) (a' := ?_) #[true, false, false, false, false, false, false, false] rfl rfl (any_of HT_.out (by kernel_rfl)) (fun _ _ _ h => h) (Or.inl ⟨by rfl, ?_⟩) ?_ ?_
            rotate_left
            ·intro w'
             go_simp
             with_reducible rfl
            rotate_left
            ·simp only [Act.put, List.setIfInBounds_toArray, List.set_cons_zero, List.set_cons_succ, i64_w, i32_w]
             rfl
            refine pure_ (i := 1) (N := some 51) (v := ?_) (a' := ?_) #[true, true, false, false, false, false, false, false] rfl rfl (any_of HT_.out (by kernel_rfl)) (fun _ _ _ h => h) (Or.inl ⟨by rfl, ?_⟩) ?_ ?_
            rotate_left
            ·intro w'
             go_simp
             with_reducible rfl
            rotate_left
            ·simp only [Act.put, List.setIfInBounds_toArray, List.set_cons_zero, List.set_cons_succ, i64_w, i32_w]
             rfl
            refine pure_ (i := 3) (N := some 53) (v := ?_) (a' := ?_) #[true, true, false, true, false, false, false, false] rfl rfl (any_of HT_.out (by kernel_rfl)) (fun _ _ _ h => h) (Or.inl ⟨by rfl, ?_⟩) ?_ ?_
            rotate_left
            ·intro w'
             go_simp
             with_reducible rfl
            rotate_left
            ·simp only [Act.put, List.setIfInBounds_toArray, List.set_cons_zero, List.set_cons_succ, i64_w, i32_w]
             rfl
            refine pure_ (i := 4) (N := some 54) (v := ?_) (a' := ?_) #[true, true, false, true, true, false, false, false] rfl rfl (any_of HT_.out (by kernel_rfl)) (fun _ _ _ h => h) (Or.inl ⟨by rfl, ?_⟩) ?_ ?_
            rotate_left
            ·intro w'
             go_simp
             with_reducible rfl
            rotate_left
            ·simp only [Act.put, List.setIfInBounds_toArray, List.set_cons_zero, List.set_cons_succ, i64_w, i32_w]
             rfl
            refine take_ (i := 2) (N := some 52) (v := ?_) (a' := ?_) #[true, true, true, true, true, false, false, false] rfl rfl (take_ofW HT_.out HW_.out (by kernel_rfl)) (fun _ _ _ h => h) (Or.inl ⟨by rfl, ?_⟩) hHeld ?_ ?_
            rotate_left
            ·rintro w' ⟨s0, s1⟩
             go_simp
             with_reducible rfl
            rotate_left
            ·simp only [Act.put, List.setIfInBounds_toArray, List.set_cons_zero, List.set_cons_succ, i64_w, i32_w]
             rfl
            refine take_ (i := 5) (N := some 55) (v := ?_) (a' := ?_) #[true, true, true, true, true, true, false, false] rfl rfl (take_ofW HT_.out HW_.out (by kernel_rfl)) (fun _ _ _ h => h) (Or.inl ⟨by rfl, ?_⟩) hHeld ?_ ?_
            rotate_left
            ·rintro w' ⟨s0, s1⟩
             go_simp
             with_reducible rfl
            rotate_left
            ·simp only [Act.put, List.setIfInBounds_toArray, List.set_cons_zero, List.set_cons_succ, i64_w, i32_w]
             rfl
            refine one_ (i := 6) (N := some 56) #[true, true, true, true, true, true, true, false] rfl rfl (one_of HT_.out (by kernel_rfl)) (by decide) (fun K hK => ?_)
            refine goes_ Try.func23 (by kernel_rfl) rfl #[.slice A416_0 (rd_L2 t413 0).length c416_0, .slice A417_0 (rd_L2 t413 1).length c417_0] (by rfl) rfl rfl (by (try simp only [List.map_toArray, List.map_cons, List.map_nil]); first | done | rfl | (simp only [List.length_drop, List.length_take]; rfl)) ?_
            with_reducible refine (r05_Length.calls kj6 _ _ (rd_L2 t413 0) _ _ (rd_L2 t413 1) t418 _ ?side1 ?side2 ?side3 ?side4 A18.out).mono ?_
            (case side1 => repeat (first | exact (by repeat (first | (with_reducible exact HR416_0.out) | (with_reducible refine Kd.C_alloc ?_ _) | (with_reducible refine Kd.C_drewN ?_ _) | (with_reducible refine Kd.C_drew ?_) | exact HR416_0.out)) | (with_reducible refine Kd.C_alloc ?_ _) | (with_reducible refine Kd.C_drewN ?_ _) | (with_reducible refine Kd.C_drew ?_)))
            (case side2 => exact HC416_0.out)
            (case side3 => repeat (first | exact (by repeat (first | (with_reducible exact HR417_0.out) | (with_reducible refine Kd.C_alloc ?_ _) | (with_reducible refine Kd.C_drewN ?_ _) | (with_reducible refine Kd.C_drew ?_) | exact HR417_0.out)) | (with_reducible refine Kd.C_alloc ?_ _) | (with_reducible refine Kd.C_drewN ?_ _) | (with_reducible refine Kd.C_drew ?_)))
            (case side4 => exact HC417_0.out)
            rintro e w42 ⟨rfl, hb⟩
            have HS0_ := (hb.cell (World.block_lt_of_cell? _ _ (hHeld.1))).trans (hHeld.1)
            have HS1_ := (hb.cell (World.block_lt_of_cell? _ _ (hHeld.2))).trans (hHeld.2)
            refine ⟨_, rfl, ?_⟩
            have n0_ := Zm (Kd.V_below (by (with_reducible repeat (first | apply Kd.V_alloc | apply Kd.V_drewN | apply Kd.V_drew)); exact HO_0.out) hb)
            have n1_ := Zm (Kd.V_below (by (with_reducible repeat (first | apply Kd.V_alloc | apply Kd.V_drewN | apply Kd.V_drew)); exact HO_1.out) hb)
            have n2_ := Zm (Kd.R_below (by (with_reducible repeat (first | apply Kd.R_alloc | apply Kd.R_drewN | apply Kd.R_drew)); exact HO398.out) hb)
            have n3_ := Zm (Kd.R_below (by (with_reducible repeat (first | apply Kd.R_alloc | apply Kd.R_drewN | apply Kd.R_drew)); exact HO402.out) hb)
            have n4_ := Zm (Kd.R_below (by (with_reducible repeat (first | apply Kd.R_alloc | apply Kd.R_drewN | apply Kd.R_drew)); exact HO405.out) hb)
            have n5_ := Zm (Kd.R_below (by (with_reducible repeat (first | apply Kd.R_alloc | apply Kd.R_drewN | apply Kd.R_drew)); exact HO409.out) hb)
            have n6_ := Zm (Kd.N_below (by (with_reducible repeat (first | apply Kd.N_alloc | apply Kd.N_drewN | apply Kd.N_drew)); exact HO412.out) hb)
            have n7_ := Zm (Kd.N_below (by (with_reducible repeat (first | apply Kd.N_alloc | apply Kd.N_drewN | apply Kd.N_drew)); exact HO415.out) hb)
            have n8_ := Zm (Kd.V_below (by (with_reducible repeat (first | apply Kd.V_alloc | apply Kd.V_drewN | apply Kd.V_drew)); exact HL416_0.out) hb)
            have n9_ := Zm (Kd.V_below (by (with_reducible repeat (first | apply Kd.V_alloc | apply Kd.V_drewN | apply Kd.V_drew)); exact HL417_0.out) hb)
            have n10_ := Zm (Kd.C_below (by repeat (first | (with_reducible exact HR416_0.out) | (with_reducible refine Kd.C_alloc ?_ _) | (with_reducible refine Kd.C_drewN ?_ _) | (with_reducible refine Kd.C_drew ?_) | exact HR416_0.out)) hb)
            have n11_ := Zm (Kd.C_below (by repeat (first | (with_reducible exact HR417_0.out) | (with_reducible refine Kd.C_alloc ?_ _) | (with_reducible refine Kd.C_drewN ?_ _) | (with_reducible refine Kd.C_drew ?_) | exact HR417_0.out)) hb)
            have n12_ := Zm (below_step (by repeat (first | (with_reducible first | exact HB.out | apply below_alloc | apply Zd | apply below_drew1) | exact HB.out)) hb)
            clear HO_0
            clear HO_1
            clear HO398
            clear HO402
            clear HO405
            clear HO409
            clear HO412
            clear HO415
            clear HL416_0
            clear HL417_0
            clear HR416_0
            clear HR417_0
            clear HB
            have HO_0 := n0_
            have HO_1 := n1_
            have HO398 := n2_
            have HO402 := n3_
            have HO405 := n4_
            have HO409 := n5_
            have HO412 := n6_
            have HO415 := n7_
            have HL416_0 := n8_
            have HL417_0 := n9_
            have HR416_0 := n10_
            have HR417_0 := n11_
            have HB := n12_
            clear n0_ n1_ n2_ n3_ n4_ n5_ n6_ n7_ n8_ n9_ n10_ n11_ n12_
            (try clear hb)
            (try clear hb2)
            (try clear hk)
            (try clear hi)
            refine hK.out _ _ ⟨HS0_, HS1_⟩ (fun hHeld => ?_)
            clear hK K
            refine norm_ (a' := ?_) ?_ ?_
            rotate_left
            ·show Act.put _ (some 56) _ = _
             simp only [Act.put, List.setIfInBounds_toArray, List.set_cons_zero, List.set_cons_succ, i64_w, i32_w]
             rfl
            refine pure_ (i := 7) (N := some 14) (v := ?_) (a' := ?_) #[true, true, true, true, true, true, true, true] rfl rfl (any_of HT_.out (by kernel_rfl)) (fun _ _ _ h => h) (Or.inl ⟨by rfl, ?_⟩) ?_ ?_
            rotate_left
            ·intro w'
             go_simp
             with_reducible rfl
            rotate_left
            ·simp only [Act.put, List.setIfInBounds_toArray, List.set_cons_zero, List.set_cons_succ, i64_w, i32_w]
             rfl
            refine done_ (done_of HT_.out (by kernel_rfl)) ?_
            obtain ⟨Ao43, co43, eo43⟩ := Kd.R_slice HO402.out
            subst eo43
            try go_wp2_with (first | (go_at_call 18; (with_reducible refine (r01_Same.calls kj6 _ _ t399 _ _ l1 true _ ?side1 ?side2 ?side3 ?side4 A21.out).mono ?_); (case side1 => repeat (first | exact (Kd.R_reads' HO402.out).2.2 | (with_reducible refine Kd.C_alloc ?_ _) | (with_reducible refine Kd.C_drewN ?_ _) | (with_reducible refine Kd.C_drew ?_))); (case side2 => exact (Kd.R_reads' HO402.out).2.1); (case side3 => repeat (first | exact (Kd.V_reads' HO_1.out).2.2 | (with_reducible refine Kd.C_alloc ?_ _) | (with_reducible refine Kd.C_drewN ?_ _) | (with_reducible refine Kd.C_drew ?_))); (case side4 => exact (Kd.V_reads' HO_1.out).2.1); rintro e w' ⟨rfl, ⟨nd, rfl⟩⟩; obtain ⟨Ao44, co44, eo44⟩ := Kd.R_slice HO409.out; subst eo44) | (go_at_call 18; (with_reducible refine (r01_Same.calls kj6 _ _ t406 _ _ l0 true _ ?side1 ?side2 ?side3 ?side4 A23.out).mono ?_); (case side1 => repeat (first | exact (Kd.R_reads' HO409.out).2.2 | (with_reducible refine Kd.C_alloc ?_ _) | (with_reducible refine Kd.C_drewN ?_ _) | (with_reducible refine Kd.C_drew ?_))); (case side2 => exact (Kd.R_reads' HO409.out).2.1); (case side3 => repeat (first | exact (Kd.V_reads' HO_0.out).2.2 | (with_reducible refine Kd.C_alloc ?_ _) | (with_reducible refine Kd.C_drewN ?_ _) | (with_reducible refine Kd.C_drew ?_))); (case side4 => exact (Kd.V_reads' HO_0.out).2.1); rintro e w' ⟨rfl, ⟨nd, rfl⟩⟩) | (go_at_call 21; (with_reducible refine (hunk_Cost.calls kj6 _ _ t396 t421 _ ?side1 ?side2 A25.out).mono ?_); (case side1 => repeat (first | exact (Kd.R_reads' HO398.out).2.2 | (with_reducible refine Kd.C_alloc ?_ _) | (with_reducible refine Kd.C_drewN ?_ _) | (with_reducible refine Kd.C_drew ?_))); (case side2 => exact (Kd.R_reads' HO398.out).2.1); rintro e w45 ⟨rfl, hb⟩; have n0_ := Zm (Kd.V_below (by (with_reducible repeat (first | apply Kd.V_alloc | apply Kd.V_drewN | apply Kd.V_drew)); exact HO_0.out) hb); have n1_ := Zm (Kd.V_below (by (with_reducible repeat (first | apply Kd.V_alloc | apply Kd.V_drewN | apply Kd.V_drew)); exact HO_1.out) hb); have n2_ := Zm (Kd.R_below (by (with_reducible repeat (first | apply Kd.R_alloc | apply Kd.R_drewN | apply Kd.R_drew)); exact HO398.out) hb); have n3_ := Zm (Kd.R_below (by (with_reducible repeat (first | apply Kd.R_alloc | apply Kd.R_drewN | apply Kd.R_drew)); exact HO402.out) hb); have n4_ := Zm (Kd.R_below (by (with_reducible repeat (first | apply Kd.R_alloc | apply Kd.R_drewN | apply Kd.R_drew)); exact HO405.out) hb); have n5_ := Zm (Kd.R_below (by (with_reducible repeat (first | apply Kd.R_alloc | apply Kd.R_drewN | apply Kd.R_drew)); exact HO409.out) hb); have n6_ := Zm (Kd.N_below (by (with_reducible repeat (first | apply Kd.N_alloc | apply Kd.N_drewN | apply Kd.N_drew)); exact HO412.out) hb); have n7_ := Zm (Kd.N_below (by (with_reducible repeat (first | apply Kd.N_alloc | apply Kd.N_drewN | apply Kd.N_drew)); exact HO415.out) hb); have n8_ := Zm (Kd.V_below (by (with_reducible repeat (first | apply Kd.V_alloc | apply Kd.V_drewN | apply Kd.V_drew)); exact HL416_0.out) hb); have n9_ := Zm (Kd.V_below (by (with_reducible repeat (first | apply Kd.V_alloc | apply Kd.V_drewN | apply Kd.V_drew)); exact HL417_0.out) hb); have n10_ := Zm (Kd.C_below (by repeat (first | (with_reducible exact HR416_0.out) | (with_reducible refine Kd.C_alloc ?_ _) | (with_reducible refine Kd.C_drewN ?_ _) | (with_reducible refine Kd.C_drew ?_) | exact HR416_0.out)) hb); have n11_ := Zm (Kd.C_below (by repeat (first | (with_reducible exact HR417_0.out) | (with_reducible refine Kd.C_alloc ?_ _) | (with_reducible refine Kd.C_drewN ?_ _) | (with_reducible refine Kd.C_drew ?_) | exact HR417_0.out)) hb); have n12_ := Zm (below_step (by repeat (first | (with_reducible first | exact HB.out | apply below_alloc | apply Zd | apply below_drew1) | exact HB.out)) hb); clear HO_0; clear HO_1; clear HO398; clear HO402; clear HO405; clear HO409; clear HO412; clear HO415; clear HL416_0; clear HL417_0; clear HR416_0; clear HR417_0; clear HB; have HO_0 := n0_; have HO_1 := n1_; have HO398 := n2_; have HO402 := n3_; have HO405 := n4_; have HO409 := n5_; have HO412 := n6_; have HO415 := n7_; have HL416_0 := n8_; have HL417_0 := n9_; have HR416_0 := n10_; have HR417_0 := n11_; have HB := n12_; clear n0_ n1_ n2_ n3_ n4_ n5_ n6_ n7_ n8_ n9_ n10_ n11_ n12_; (try clear hb); (try clear hb2); (try clear hk); (try clear hi)) | (go_at_call 19; (with_reducible refine (hunk_Invert.calls kj6 _ _ t396 t422 _ ?side1 ?side2 A27.out).mono ?_); (case side1 => repeat (first | exact (Kd.R_reads' HO398.out).2.2 | (with_reducible refine Kd.C_alloc ?_ _) | (with_reducible refine Kd.C_drewN ?_ _) | (with_reducible refine Kd.C_drew ?_))); (case side2 => exact (Kd.R_reads' HO398.out).2.1); rintro e w46 ⟨v423, rfl, ho0, hb⟩; have n0_ := Zm (Kd.V_elder' (by (with_reducible repeat (first | apply Kd.V_alloc | apply Kd.V_drewN | apply Kd.V_drew)); exact HO_0.out) (Kd.R_base ho0) hb); have n1_ := Zm (Kd.V_elder' (by (with_reducible repeat (first | apply Kd.V_alloc | apply Kd.V_drewN | apply Kd.V_drew)); exact HO_1.out) (Kd.R_base ho0) hb); have n2_ := Zm (Kd.R_elder' (by (with_reducible repeat (first | apply Kd.R_alloc | apply Kd.R_drewN | apply Kd.R_drew)); exact HO398.out) (Kd.R_base ho0) hb); have n3_ := Zm (Kd.R_below (by (with_reducible repeat (first | apply Kd.R_alloc | apply Kd.R_drewN | apply Kd.R_drew)); exact HO402.out) hb); have n4_ := Zm (Kd.R_elder' (by (with_reducible repeat (first | apply Kd.R_alloc | apply Kd.R_drewN | apply Kd.R_drew)); exact HO405.out) (Kd.R_base ho0) hb); have n5_ := Zm (Kd.R_below (by (with_reducible repeat (first | apply Kd.R_alloc | apply Kd.R_drewN | apply Kd.R_drew)); exact HO409.out) hb); have n6_ := Zm (Kd.N_elder' (by (with_reducible repeat (first | apply Kd.N_alloc | apply Kd.N_drewN | apply Kd.N_drew)); exact HO412.out) (Kd.R_base ho0) hb); have n7_ := Zm (Kd.N_elder' (by (with_reducible repeat (first | apply Kd.N_alloc | apply Kd.N_drewN | apply Kd.N_drew)); exact HO415.out) (Kd.R_base ho0) hb); have n8_ := Zm (Kd.V_elder' (by (with_reducible repeat (first | apply Kd.V_alloc | apply Kd.V_drewN | apply Kd.V_drew)); exact HL416_0.out) (Kd.R_base ho0) hb); have n9_ := Zm (Kd.V_elder' (by (with_reducible repeat (first | apply Kd.V_alloc | apply Kd.V_drewN | apply Kd.V_drew)); exact HL417_0.out) (Kd.R_base ho0) hb); have n10_ := Zm (Kd.R_lower (Kd.R_new' (Kd.R_new' (Kd.R_newM (M := fun k_ => (w.heap.size ≤ k_)) ho0 (below_size (by repeat (first | (with_reducible first | exact HB.out | apply below_alloc | apply Zd | apply below_drew1) | exact HB.out))) (fun k_ h_ => h_)) (Kd.R_lt (by (with_reducible repeat (first | apply Kd.R_alloc | apply Kd.R_drewN | apply Kd.R_drew)); exact HO398.out))) (Kd.R_lt (by (with_reducible repeat (first | apply Kd.R_alloc | apply Kd.R_drewN | apply Kd.R_drew)); exact HO405.out))) (below_size (by repeat (first | (with_reducible first | exact HB.out | apply below_alloc | apply Zd | apply below_drew1) | exact HB.out)))); have n11_ := Zm (Kd.C_below (by repeat (first | (with_reducible exact HR416_0.out) | (with_reducible refine Kd.C_alloc ?_ _) | (with_reducible refine Kd.C_drewN ?_ _) | (with_reducible refine Kd.C_drew ?_) | exact HR416_0.out)) hb); have n12_ := Zm (Kd.C_below (by repeat (first | (with_reducible exact HR417_0.out) | (with_reducible refine Kd.C_alloc ?_ _) | (with_reducible refine Kd.C_drewN ?_ _) | (with_reducible refine Kd.C_drew ?_) | exact HR417_0.out)) hb); have n13_ := Zm (below_step (by repeat (first | (with_reducible first | exact HB.out | apply below_alloc | apply Zd | apply below_drew1) | exact HB.out)) hb); clear HO_0; clear HO_1; clear HO398; clear HO402; clear HO405; clear HO409; clear HO412; clear HO415; clear HL416_0; clear HL417_0; clear HR416_0; clear HR417_0; clear HB; have HO_0 := n0_; have HO_1 := n1_; have HO398 := n2_; have HO402 := n3_; have HO405 := n4_; have HO409 := n5_; have HO412 := n6_; have HO415 := n7_; have HL416_0 := n8_; have HL417_0 := n9_; have HO424 := n10_; have HR416_0 := n11_; have HR417_0 := n12_; have HB := n13_; clear n0_ n1_ n2_ n3_ n4_ n5_ n6_ n7_ n8_ n9_ n10_ n11_ n12_ n13_; (try clear hb); (try clear hb2); (try clear hk); (try clear hi); (try clear ho0); obtain ⟨Ao47, co47, eo47⟩ := Kd.R_slice HO424.out; subst eo47) | (go_at_call 19; (with_reducible refine (hunk_Invert.calls kj6 _ _ t422 t425 _ ?side1 ?side2 A28.out).mono ?_); (case side1 => repeat (first | exact (Kd.R_reads' HO424.out).2.2 | (with_reducible refine Kd.C_alloc ?_ _) | (with_reducible refine Kd.C_drewN ?_ _) | (with_reducible refine Kd.C_drew ?_))); (case side2 => exact (Kd.R_reads' HO424.out).2.1); rintro e w48 ⟨v426, rfl, ho0, hb⟩; have n0_ := Zm (Kd.V_elder' (by (with_reducible repeat (first | apply Kd.V_alloc | apply Kd.V_drewN | apply Kd.V_drew)); exact HO_0.out) (Kd.R_base ho0) hb); have n1_ := Zm (Kd.V_elder' (by (with_reducible repeat (first | apply Kd.V_alloc | apply Kd.V_drewN | apply Kd.V_drew)); exact HO_1.out) (Kd.R_base ho0) hb); have n2_ := Zm (Kd.R_elder' (by (with_reducible repeat (first | apply Kd.R_alloc | apply Kd.R_drewN | apply Kd.R_drew)); exact HO398.out) (Kd.R_base ho0) hb); have n3_ := Zm (Kd.R_below (by (with_reducible repeat (first | apply Kd.R_alloc | apply Kd.R_drewN | apply Kd.R_drew)); exact HO402.out) hb); have n4_ := Zm (Kd.R_elder' (by (with_reducible repeat (first | apply Kd.R_alloc | apply Kd.R_drewN | apply Kd.R_drew)); exact HO405.out) (Kd.R_base ho0) hb); have n5_ := Zm (Kd.R_below (by (with_reducible repeat (first | apply Kd.R_alloc | apply Kd.R_drewN | apply Kd.R_drew)); exact HO409.out) hb); have n6_ := Zm (Kd.N_elder' (by (with_reducible repeat (first | apply Kd.N_alloc | apply Kd.N_drewN | apply Kd.N_drew)); exact HO412.out) (Kd.R_base ho0) hb); have n7_ := Zm (Kd.N_elder' (by (with_reducible repeat (first | apply Kd.N_alloc | apply Kd.N_drewN | apply Kd.N_drew)); exact HO415.out) (Kd.R_base ho0) hb); have n8_ := Zm (Kd.V_elder' (by (with_reducible repeat (first | apply Kd.V_alloc | apply Kd.V_drewN | apply Kd.V_drew)); exact HL416_0.out) (Kd.R_base ho0) hb); have n9_ := Zm (Kd.V_elder' (by (with_reducible repeat (first | apply Kd.V_alloc | apply Kd.V_drewN | apply Kd.V_drew)); exact HL417_0.out) (Kd.R_base ho0) hb); have n10_ := Zm (Kd.R_elder' (by (with_reducible repeat (first | apply Kd.R_alloc | apply Kd.R_drewN | apply Kd.R_drew)); exact HO424.out) (Kd.R_base ho0) hb); have n11_ := Zm (Kd.R_lower (Kd.R_new' (Kd.R_new' (Kd.R_new' (Kd.R_newM (M := fun k_ => (w.heap.size ≤ k_)) ho0 (below_size (by repeat (first | (with_reducible first | exact HB.out | apply below_alloc | apply Zd | apply below_drew1) | exact HB.out))) (fun k_ h_ => h_)) (Kd.R_lt (by (with_reducible repeat (first | apply Kd.R_alloc | apply Kd.R_drewN | apply Kd.R_drew)); exact HO398.out))) (Kd.R_lt (by (with_reducible repeat (first | apply Kd.R_alloc | apply Kd.R_drewN | apply Kd.R_drew)); exact HO405.out))) (Kd.R_lt (by (with_reducible repeat (first | apply Kd.R_alloc | apply Kd.R_drewN | apply Kd.R_drew)); exact HO424.out))) (below_size (by repeat (first | (with_reducible first | exact HB.out | apply below_alloc | apply Zd | apply below_drew1) | exact HB.out)))); have n12_ := Zm (Kd.C_below (by repeat (first | (with_reducible exact HR416_0.out) | (with_reducible refine Kd.C_alloc ?_ _) | (with_reducible refine Kd.C_drewN ?_ _) | (with_reducible refine Kd.C_drew ?_) | exact HR416_0.out)) hb); have n13_ := Zm (Kd.C_below (by repeat (first | (with_reducible exact HR417_0.out) | (with_reducible refine Kd.C_alloc ?_ _) | (with_reducible refine Kd.C_drewN ?_ _) | (with_reducible refine Kd.C_drew ?_) | exact HR417_0.out)) hb); have n14_ := Zm (below_step (by repeat (first | (with_reducible first | exact HB.out | apply below_alloc | apply Zd | apply below_drew1) | exact HB.out)) hb); clear HO_0; clear HO_1; clear HO398; clear HO402; clear HO405; clear HO409; clear HO412; clear HO415; clear HL416_0; clear HL417_0; clear HO424; clear HR416_0; clear HR417_0; clear HB; have HO_0 := n0_; have HO_1 := n1_; have HO398 := n2_; have HO402 := n3_; have HO405 := n4_; have HO409 := n5_; have HO412 := n6_; have HO415 := n7_; have HL416_0 := n8_; have HL417_0 := n9_; have HO424 := n10_; have HO427 := n11_; have HR416_0 := n12_; have HR417_0 := n13_; have HB := n14_; clear n0_ n1_ n2_ n3_ n4_ n5_ n6_ n7_ n8_ n9_ n10_ n11_ n12_ n13_ n14_; (try clear hb); (try clear hb2); (try clear hk); (try clear hi); (try clear ho0); obtain ⟨Ao49, co49, eo49⟩ := Kd.R_slice HO427.out; subst eo49) | (go_at_call 8; (with_reducible refine (r06_Same.calls kj6 _ _ t425 _ _ t396 t428 _ ?side1 ?side2 ?side3 ?side4 A29.out).mono ?_); (case side1 => repeat (first | exact (Kd.R_reads' HO427.out).2.2 | (with_reducible refine Kd.C_alloc ?_ _) | (with_reducible refine Kd.C_drewN ?_ _) | (with_reducible refine Kd.C_drew ?_))); (case side2 => exact (Kd.R_reads' HO427.out).2.1); (case side3 => repeat (first | exact (Kd.R_reads' HO398.out).2.2 | (with_reducible refine Kd.C_alloc ?_ _) | (with_reducible refine Kd.C_drewN ?_ _) | (with_reducible refine Kd.C_drew ?_))); (case side4 => exact (Kd.R_reads' HO398.out).2.1); rintro e w' ⟨rfl, ⟨nd, rfl⟩⟩))
            go_ret
            exact ⟨by first | rfl | (simp [errW_none, errW_some] <;> rfl) | (simp [*, errW_none, errW_some] <;> rfl), by repeat (first | (with_reducible first | exact HB.out | apply below_alloc | apply Zd | apply below_drew1) | exact HB.out)⟩
           ·rw [if_neg c26] at H
            exact absurd H (by simp)
          ·replace c24 := Bool.eq_false_iff.mpr c24
           subst c24
           have H1 : (none) = some r := by rw [if_neg (show ¬ (false = true) by decide)] at H; exact H
           clear H
           have H := H1
           clear H1
           exact absurd H (by simp)
         ·replace c22 := Bool.eq_false_iff.mpr c22
          subst c22
          have H1 : (none) = some r := by rw [if_neg (show ¬ (false = true) by decide)] at H; exact H
          clear H
          have H := H1
          clear H1
          exact absurd H (by simp)
        ·rw [if_neg c20] at H
         exact absurd H (by simp)
       ·rw [if_neg c19] at H
        exact absurd H (by simp)
      ·rw [if_neg c17] at H
       exact absurd H (by simp)
     ·rw [if_neg c16] at H
      exact absurd H (by simp)
 ·replace c4 := Bool.eq_false_iff.mpr c4
  subst c4
  have H1 : (none) = some r := by rw [if_neg (show ¬ (false = true) by decide)] at H; exact H
  clear H
  have H := H1
  clear H1
  exact absurd H (by simp)
end Go.Proofs.Ytphghffdaceaoaa.PHunk
