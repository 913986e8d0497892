/- Laid by a program of this session out of the seat's translation. -/
import Derived.Test.YteafndooaokagaaPDiffx0
import Derived.Test.YteafndooaokagaaPDiffx7
import Derived.Test.YteafndooaokagaaPDiffx8
import Derived.Test.YteafndooaokagaaPDiffx9
namespace Go.Proofs.Yteafndooaokagaa.PDiff
open Go.RowKit Go.Proofs.YteafndooaokagaaW.PrintWords Go.Proofs.YteafndooaokagaaW.PrintLast Go.Proofs.YteafndooaokagaaW.PrintMore
attribute [local go_sem] max2_int min2_int max_two min_two max_three min_three max_four min_four   -- for this text's walks alone
set_option linter.unusedVariables false
set_option linter.unusedSimpArgs false

/-! ### concordatlaw07_Diff3All: function 5 -/
mutual
def concordatlaw07_Diff3All.l0 : Nat → List Int → List Int → List Int → List (S41) → Int → Int → Int → Int → Option (Bool)
  | 0, _, _, _, _, _, _, _, _ => none
  | k + 1, x0, x1, x2, x9, x10, x11, x12, x13 => if x13 < (x9.length : Int) then (if 0 ≤ x13 then (if ((rd_T41 x9 x13).f1.f0) = x10 then (if ((rd_T41 x9 x13).f2.f0) = x11 then (if ((rd_T41 x9 x13).f3.f0) = x12 then (if ((rd_T41 x9 x13).f1.f1) < x10 then (concordatlaw07_Diff3All.j1 k x0 x1 x2 x9 x10 x11 x12 x13 true ((rd_T41 x9 x13).f0) ((rd_T41 x9 x13).f1.f0) ((rd_T41 x9 x13).f1.f1) ((rd_T41 x9 x13).f2.f0) ((rd_T41 x9 x13).f2.f1) ((rd_T41 x9 x13).f3.f0) ((rd_T41 x9 x13).f3.f1)) else (if ((rd_T41 x9 x13).f2.f1) < x11 then (concordatlaw07_Diff3All.j1 k x0 x1 x2 x9 x10 x11 x12 x13 true ((rd_T41 x9 x13).f0) ((rd_T41 x9 x13).f1.f0) ((rd_T41 x9 x13).f1.f1) ((rd_T41 x9 x13).f2.f0) ((rd_T41 x9 x13).f2.f1) ((rd_T41 x9 x13).f3.f0) ((rd_T41 x9 x13).f3.f1)) else (if ((rd_T41 x9 x13).f3.f1) < x12 then (concordatlaw07_Diff3All.j1 k x0 x1 x2 x9 x10 x11 x12 x13 true ((rd_T41 x9 x13).f0) ((rd_T41 x9 x13).f1.f0) ((rd_T41 x9 x13).f1.f1) ((rd_T41 x9 x13).f2.f0) ((rd_T41 x9 x13).f2.f1) ((rd_T41 x9 x13).f3.f0) ((rd_T41 x9 x13).f3.f1)) else (if ((rd_T41 x9 x13).f1.f1) > (x0.length : Int) then (concordatlaw07_Diff3All.j1 k x0 x1 x2 x9 x10 x11 x12 x13 true ((rd_T41 x9 x13).f0) ((rd_T41 x9 x13).f1.f0) ((rd_T41 x9 x13).f1.f1) ((rd_T41 x9 x13).f2.f0) ((rd_T41 x9 x13).f2.f1) ((rd_T41 x9 x13).f3.f0) ((rd_T41 x9 x13).f3.f1)) else (if ((rd_T41 x9 x13).f2.f1) > (x1.length : Int) then (concordatlaw07_Diff3All.j1 k x0 x1 x2 x9 x10 x11 x12 x13 true ((rd_T41 x9 x13).f0) ((rd_T41 x9 x13).f1.f0) ((rd_T41 x9 x13).f1.f1) ((rd_T41 x9 x13).f2.f0) ((rd_T41 x9 x13).f2.f1) ((rd_T41 x9 x13).f3.f0) ((rd_T41 x9 x13).f3.f1)) else (concordatlaw07_Diff3All.j1 k x0 x1 x2 x9 x10 x11 x12 x13 (decide (((rd_T41 x9 x13).f3.f1) > (x2.length : Int))) ((rd_T41 x9 x13).f0) ((rd_T41 x9 x13).f1.f0) ((rd_T41 x9 x13).f1.f1) ((rd_T41 x9 x13).f2.f0) ((rd_T41 x9 x13).f2.f1) ((rd_T41 x9 x13).f3.f0) ((rd_T41 x9 x13).f3.f1))))))) else (concordatlaw07_Diff3All.j1 k x0 x1 x2 x9 x10 x11 x12 x13 true ((rd_T41 x9 x13).f0) ((rd_T41 x9 x13).f1.f0) ((rd_T41 x9 x13).f1.f1) ((rd_T41 x9 x13).f2.f0) ((rd_T41 x9 x13).f2.f1) ((rd_T41 x9 x13).f3.f0) ((rd_T41 x9 x13).f3.f1))) else (concordatlaw07_Diff3All.j1 k x0 x1 x2 x9 x10 x11 x12 x13 true ((rd_T41 x9 x13).f0) ((rd_T41 x9 x13).f1.f0) ((rd_T41 x9 x13).f1.f1) ((rd_T41 x9 x13).f2.f0) ((rd_T41 x9 x13).f2.f1) ((rd_T41 x9 x13).f3.f0) ((rd_T41 x9 x13).f3.f1))) else (concordatlaw07_Diff3All.j1 k x0 x1 x2 x9 x10 x11 x12 x13 true ((rd_T41 x9 x13).f0) ((rd_T41 x9 x13).f1.f0) ((rd_T41 x9 x13).f1.f1) ((rd_T41 x9 x13).f2.f0) ((rd_T41 x9 x13).f2.f1) ((rd_T41 x9 x13).f3.f0) ((rd_T41 x9 x13).f3.f1))) else (none)) else (if x10 = (x0.length : Int) then (if x11 = (x1.length : Int) then (some (x12 == (x2.length : Int))) else (none)) else (none))
def concordatlaw07_Diff3All.j1 : Nat → List Int → List Int → List Int → List (S41) → Int → Int → Int → Int → Bool → Int → Int → Int → Int → Int → Int → Int → Option (Bool)
  | 0, _, _, _, _, _, _, _, _, _, _, _, _, _, _, _, _ => none
  | k + 1, x0, x1, x2, x9, x10, x11, x12, x13, x108, x432000, x432001, x432002, x432003, x432004, x432005, x432006 => if x108 = true then (none) else (if 0 ≤ x10 then (if x10 ≤ x432002 then (if x432002 ≤ (x0.length : Int) then (if 0 ≤ x11 then (if x11 ≤ x432004 then (if x432004 ≤ (x1.length : Int) then (if 0 ≤ x12 then (if x12 ≤ x432006 then (if x432006 ≤ (x2.length : Int) then (if (wrap64 ((wrap64 ((((x0.take (x432002 : Int).toNat).drop (x10 : Int).toNat).length : Int) + (((x1.take (x432004 : Int).toNat).drop (x11 : Int).toNat).length : Int))) + (((x2.take (x432006 : Int).toNat).drop (x12 : Int).toNat).length : Int))) = 0 then (none) else ((concordatref05_Same.f k ((x0.take (x432002 : Int).toNat).drop (x10 : Int).toNat) ((x1.take (x432004 : Int).toNat).drop (x11 : Int).toNat)).bind fun t435 => ((concordatref05_Same.f k ((x0.take (x432002 : Int).toNat).drop (x10 : Int).toNat) ((x2.take (x432006 : Int).toNat).drop (x12 : Int).toNat)).bind fun t436 => ((concordatref05_Same.f k ((x1.take (x432004 : Int).toNat).drop (x11 : Int).toNat) ((x2.take (x432006 : Int).toNat).drop (x12 : Int).toNat)).bind fun t437 => (if t435 = true then (concordatlaw07_Diff3All.j2 k x0 x1 x2 x9 x13 (!t435) (!t436) t437 4 t436 x432000 x432001 x432002 x432003 x432004 x432005 x432006) else (concordatlaw07_Diff3All.j2 k x0 x1 x2 x9 x13 (!t435) (!t436) t437 4 false x432000 x432001 x432002 x432003 x432004 x432005 x432006)))))) else (none)) else (none)) else (none)) else (none)) else (none)) else (none)) else (none)) else (none)) else (none))
def concordatlaw07_Diff3All.j2 : Nat → List Int → List Int → List Int → List (S41) → Int → Bool → Bool → Bool → Int → Bool → Int → Int → Int → Int → Int → Int → Int → Option (Bool)
  | 0, _, _, _, _, _, _, _, _, _, _, _, _, _, _, _, _, _ => none
  | k + 1, x0, x1, x2, x9, x13, x18, x19, x20, x21, x147, x432000, x432001, x432002, x432003, x432004, x432005, x432006 => if x147 = true then (if x432000 = 0 then (concordatlaw07_Diff3All.l0 k x0 x1 x2 x9 x432002 x432004 x432006 (wrap64 (x13 + 1))) else (none)) else (if x18 = true then (if x19 = true then (if x20 = true then (if x432000 = 3 then (concordatlaw07_Diff3All.l0 k x0 x1 x2 x9 x432002 x432004 x432006 (wrap64 (x13 + 1))) else (none)) else (if x432000 = x21 then (concordatlaw07_Diff3All.l0 k x0 x1 x2 x9 x432002 x432004 x432006 (wrap64 (x13 + 1))) else (none))) else (if x432000 = 1 then (concordatlaw07_Diff3All.l0 k x0 x1 x2 x9 x432002 x432004 x432006 (wrap64 (x13 + 1))) else (none))) else (if x432000 = 2 then (concordatlaw07_Diff3All.l0 k x0 x1 x2 x9 x432002 x432004 x432006 (wrap64 (x13 + 1))) else (none)))
end
def concordatlaw07_Diff3All.f (k : Nat) (l0 : List Int) (l1 : List Int) (l2 : List Int) : Option (Bool) := (concordatlaw07_awake.f k).bind fun t425 => (if t425 = true then ((concordatlaw07_few.f l0 l1 l2).bind fun t426 => (if t426 = true then ((diff3_Chunks.f k l0 l1 l2).bind fun t427 => (concordatlaw07_Diff3All.l0 k l0 l1 l2 t427 0 0 0 0)) else (some true))) else (none))
theorem concordatlaw07_Diff3All.mono_l : ∀ k, (∀ y0 y1 y2 y3 y4 y5 y6 y7, LeO (concordatlaw07_Diff3All.l0 k y0 y1 y2 y3 y4 y5 y6 y7) (concordatlaw07_Diff3All.l0 (k + 1) y0 y1 y2 y3 y4 y5 y6 y7)) ∧ (∀ y0 y1 y2 y3 y4 y5 y6 y7 y8 y9 y10 y11 y12 y13 y14 y15, LeO (concordatlaw07_Diff3All.j1 k y0 y1 y2 y3 y4 y5 y6 y7 y8 y9 y10 y11 y12 y13 y14 y15) (concordatlaw07_Diff3All.j1 (k + 1) y0 y1 y2 y3 y4 y5 y6 y7 y8 y9 y10 y11 y12 y13 y14 y15)) ∧ (∀ y0 y1 y2 y3 y4 y5 y6 y7 y8 y9 y10 y11 y12 y13 y14 y15 y16, LeO (concordatlaw07_Diff3All.j2 k y0 y1 y2 y3 y4 y5 y6 y7 y8 y9 y10 y11 y12 y13 y14 y15 y16) (concordatlaw07_Diff3All.j2 (k + 1) y0 y1 y2 y3 y4 y5 y6 y7 y8 y9 y10 y11 y12 y13 y14 y15 y16))
  | 0 => ⟨fun _ _ _ _ _ _ _ _ r h => by simp [concordatlaw07_Diff3All.l0] at h, fun _ _ _ _ _ _ _ _ _ _ _ _ _ _ _ _ r h => by simp [concordatlaw07_Diff3All.j1] at h, fun _ _ _ _ _ _ _ _ _ _ _ _ _ _ _ _ _ r h => by simp [concordatlaw07_Diff3All.j2] at h⟩
  | k + 1 => by
    obtain ⟨ih0, ih1, ih2⟩ := concordatlaw07_Diff3All.mono_l k
    refine ⟨?_, ?_, ?_⟩
    · intro y0 y1 y2 y3 y4 y5 y6 y7
      unfold concordatlaw07_Diff3All.l0
      repeat' first
      | (with_reducible exact ih0 _ _ _ _ _ _ _ _)
      | (with_reducible exact ih1 _ _ _ _ _ _ _ _ _ _ _ _ _ _ _ _)
      | (with_reducible exact ih2 _ _ _ _ _ _ _ _ _ _ _ _ _ _ _ _ _)
      | (with_reducible exact concordatlaw07_awake.mono _)
      | (with_reducible exact concordatref05_Same.mono _ _ _)
      | (with_reducible exact diff3_Chunks.mono _ _ _ _)
      | (with_reducible exact LeO.refl _)
      | (with_reducible exact LeO.none _)
      | (with_reducible refine LeO.ite ?_ ?_)
      | (with_reducible refine LeO.bind ?_ (fun _ => ?_))
      | exact ih0 _ _ _ _ _ _ _ _
      | exact ih1 _ _ _ _ _ _ _ _ _ _ _ _ _ _ _ _
      | exact ih2 _ _ _ _ _ _ _ _ _ _ _ _ _ _ _ _ _
      | exact concordatlaw07_awake.mono _
      | exact concordatref05_Same.mono _ _ _
      | exact diff3_Chunks.mono _ _ _ _
      | exact LeO.none _
      | refine LeO.ite ?_ ?_
      | refine LeO.bind ?_ (fun _ => ?_)
    · intro y0 y1 y2 y3 y4 y5 y6 y7 y8 y9 y10 y11 y12 y13 y14 y15
      unfold concordatlaw07_Diff3All.j1
      repeat' first
      | (with_reducible exact ih0 _ _ _ _ _ _ _ _)
      | (with_reducible exact ih1 _ _ _ _ _ _ _ _ _ _ _ _ _ _ _ _)
      | (with_reducible exact ih2 _ _ _ _ _ _ _ _ _ _ _ _ _ _ _ _ _)
      | (with_reducible exact concordatlaw07_awake.mono _)
      | (with_reducible exact concordatref05_Same.mono _ _ _)
      | (with_reducible exact diff3_Chunks.mono _ _ _ _)
      | (with_reducible exact LeO.refl _)
      | (with_reducible exact LeO.none _)
      | (with_reducible refine LeO.ite ?_ ?_)
      | (with_reducible refine LeO.bind ?_ (fun _ => ?_))
      | exact ih0 _ _ _ _ _ _ _ _
      | exact ih1 _ _ _ _ _ _ _ _ _ _ _ _ _ _ _ _
      | exact ih2 _ _ _ _ _ _ _ _ _ _ _ _ _ _ _ _ _
      | exact concordatlaw07_awake.mono _
      | exact concordatref05_Same.mono _ _ _
      | exact diff3_Chunks.mono _ _ _ _
      | exact LeO.none _
      | refine LeO.ite ?_ ?_
      | refine LeO.bind ?_ (fun _ => ?_)
    · intro y0 y1 y2 y3 y4 y5 y6 y7 y8 y9 y10 y11 y12 y13 y14 y15 y16
      unfold concordatlaw07_Diff3All.j2
      repeat' first
      | (with_reducible exact ih0 _ _ _ _ _ _ _ _)
      | (with_reducible exact ih1 _ _ _ _ _ _ _ _ _ _ _ _ _ _ _ _)
      | (with_reducible exact ih2 _ _ _ _ _ _ _ _ _ _ _ _ _ _ _ _ _)
      | (with_reducible exact concordatlaw07_awake.mono _)
      | (with_reducible exact concordatref05_Same.mono _ _ _)
      | (with_reducible exact diff3_Chunks.mono _ _ _ _)
      | (with_reducible exact LeO.refl _)
      | (with_reducible exact LeO.none _)
      | (with_reducible refine LeO.ite ?_ ?_)
      | (with_reducible refine LeO.bind ?_ (fun _ => ?_))
      | exact ih0 _ _ _ _ _ _ _ _
      | exact ih1 _ _ _ _ _ _ _ _ _ _ _ _ _ _ _ _
      | exact ih2 _ _ _ _ _ _ _ _ _ _ _ _ _ _ _ _ _
      | exact concordatlaw07_awake.mono _
      | exact concordatref05_Same.mono _ _ _
      | exact diff3_Chunks.mono _ _ _ _
      | exact LeO.none _
      | refine LeO.ite ?_ ?_
      | refine LeO.bind ?_ (fun _ => ?_)
theorem concordatlaw07_Diff3All.mono : ∀ a0 a1 a2 k, LeO (concordatlaw07_Diff3All.f k a0 a1 a2) (concordatlaw07_Diff3All.f (k + 1) a0 a1 a2) := by
  intro a0 a1 a2 k
  obtain ⟨ih0, ih1, ih2⟩ := concordatlaw07_Diff3All.mono_l k
  unfold concordatlaw07_Diff3All.f
  repeat' first
      | (with_reducible exact ih0 _ _ _ _ _ _ _ _)
      | (with_reducible exact ih1 _ _ _ _ _ _ _ _ _ _ _ _ _ _ _ _)
      | (with_reducible exact ih2 _ _ _ _ _ _ _ _ _ _ _ _ _ _ _ _ _)
      | (with_reducible exact concordatlaw07_awake.mono _)
      | (with_reducible exact concordatref05_Same.mono _ _ _)
      | (with_reducible exact diff3_Chunks.mono _ _ _ _)
      | (with_reducible exact LeO.refl _)
      | (with_reducible exact LeO.none _)
      | (with_reducible refine LeO.ite ?_ ?_)
      | (with_reducible refine LeO.bind ?_ (fun _ => ?_))
      | exact ih0 _ _ _ _ _ _ _ _
      | exact ih1 _ _ _ _ _ _ _ _ _ _ _ _ _ _ _ _
      | exact ih2 _ _ _ _ _ _ _ _ _ _ _ _ _ _ _ _ _
      | exact concordatlaw07_awake.mono _
      | exact concordatref05_Same.mono _ _ _
      | exact diff3_Chunks.mono _ _ _ _
      | exact LeO.none _
      | refine LeO.ite ?_ ?_
      | refine LeO.bind ?_ (fun _ => ?_)
set_option maxHeartbeats 8000000 in
set_option maxRecDepth 100000 in
theorem concordatlaw07_Diff3All.calls (k : Nat) (A0 : Option Addr) (c0 : Nat) (l0 : List Int) (A1 : Option Addr) (c1 : Nat) (l1 : List Int) (A2 : Option Addr) (c2 : Nat) (l2 : List Int) (r : Bool) (w : World) (hr0 : Kd.C (Kd.int .i64) w A0 l0.length l0) (hc0 : l0.length ≤ c0) (hr1 : Kd.C (Kd.int .i64) w A1 l1.length l1) (hc1 : l1.length ≤ c1) (hr2 : Kd.C (Kd.int .i64) w A2 l2.length l2) (hc2 : l2.length ≤ c2) (h : concordatlaw07_Diff3All.f k l0 l1 l2 = some r) :
    Calls Try.prog 5 #[.slice A0 l0.length c0, .slice A1 l1.length c1, .slice A2 l2.length c2] w fun e w' => e = .returned (.bool r) ∧ Below w.heap.size w w' := by
  have hu41 := Try.underlying41
  have HR0 := Aside0.mk hr0
  have HC0 := Aside0.mk hc0
  clear hr0 hc0
  have HR1 := Aside0.mk hr1
  have HC1 := Aside0.mk hc1
  clear hr1 hc1
  have HR2 := Aside0.mk hr2
  have HC2 := Aside0.mk hc2
  clear hr2 hc2
  have HB := Aside0.mk (Below.refl w.heap.size w)
  have H : ((concordatlaw07_awake.f k).bind fun t425 => (if t425 = true then ((concordatlaw07_few.f l0 l1 l2).bind fun t426 => (if t426 = true then ((diff3_Chunks.f k l0 l1 l2).bind fun t427 => (concordatlaw07_Diff3All.l0 k l0 l1 l2 t427 0 0 0 0)) else (some true))) else (none))) = some r := h
  clear h
  replace H := Option.bind_eq_some_iff.mp H
  obtain ⟨t425, A40, H⟩ := H
  replace H : (if t425 = true then ((concordatlaw07_few.f l0 l1 l2).bind fun t426 => (if t426 = true then ((diff3_Chunks.f k l0 l1 l2).bind fun t427 => (concordatlaw07_Diff3All.l0 k l0 l1 l2 t427 0 0 0 0)) else (some true))) else (none)) = some r := H
  have A4 := Aside0.mk A40
  clear A40
  by_cases c5 : t425 = true
  · subst c5
    have H1 : ((concordatlaw07_few.f l0 l1 l2).bind fun t426 => (if t426 = true then ((diff3_Chunks.f k l0 l1 l2).bind fun t427 => (concordatlaw07_Diff3All.l0 k l0 l1 l2 t427 0 0 0 0)) else (some true))) = some r := by rw [if_pos rfl] at H; exact H
    clear H
    have H := H1
    clear H1
    replace H := Option.bind_eq_some_iff.mp H
    obtain ⟨t426, A60, H⟩ := H
    replace H : (if t426 = true then ((diff3_Chunks.f k l0 l1 l2).bind fun t427 => (concordatlaw07_Diff3All.l0 k l0 l1 l2 t427 0 0 0 0)) else (some true)) = some r := H
    have A6 := Aside0.mk A60
    clear A60
    by_cases c7 : t426 = true
    · subst c7
      have H1 : ((diff3_Chunks.f k l0 l1 l2).bind fun t427 => (concordatlaw07_Diff3All.l0 k l0 l1 l2 t427 0 0 0 0)) = some r := by rw [if_pos rfl] at H; exact H
      clear H
      have H := H1
      clear H1
      replace H := Option.bind_eq_some_iff.mp H
      obtain ⟨t427, A80, H⟩ := H
      replace H : (concordatlaw07_Diff3All.l0 k l0 l1 l2 t427 0 0 0 0) = some r := H
      have A8 := Aside0.mk A80
      clear A80
      have H' := Aside0.mk H
      clear H
      go_enter Try.func5, Try.ntmps5
      go_wp2_with (first | ((with_reducible refine gate_callee (f := 8) rfl ?_); refine goesL_ (some 22) rfl rfl Try.func8 (by kernel_rfl) rfl #[] rfl (by (try simp only [List.map_toArray, List.map_cons, List.map_nil]); first | done | rfl | (simp only [List.length_drop, List.length_take]; rfl)) ?_; (with_reducible refine (concordatlaw07_awake.calls k  true _ A4.out).mono ?_); rintro e w9 ⟨rfl, hb⟩; refine ⟨_, rfl, ?_⟩; have n0_ := Aside0.mk (below_step (by repeat (first | (with_reducible first | exact HB.out | apply below_alloc | apply pw_below_drewN | apply below_drew1) | exact HB.out)) hb); clear HB; have HB := n0_; clear n0_; (try clear hb); (try clear hb2); (try clear hk); (try clear hi)) | ((with_reducible refine gate_callee (f := 9) rfl ?_); refine goesL_ (some 28) rfl rfl Try.func9 (by kernel_rfl) rfl #[.slice A0 l0.length c0, .slice A1 l1.length c1, .slice A2 l2.length c2] rfl (by (try simp only [List.map_toArray, List.map_cons, List.map_nil]); first | done | rfl | (simp only [List.length_drop, List.length_take]; rfl)) ?_; (with_reducible refine (concordatlaw07_few.calls _ _ l0 _ _ l1 _ _ l2 true _ ?side1 ?side2 ?side3 ?side4 ?side5 ?side6 A6.out).mono ?_); (case side1 => repeat (first | exact (Kd.C_below HR0.out HB.out) | (with_reducible refine Kd.C_alloc ?_ _) | (with_reducible refine Kd.C_drewN ?_ _) | (with_reducible refine Kd.C_drew ?_))); (case side2 => exact HC0.out); (case side3 => repeat (first | exact (Kd.C_below HR1.out HB.out) | (with_reducible refine Kd.C_alloc ?_ _) | (with_reducible refine Kd.C_drewN ?_ _) | (with_reducible refine Kd.C_drew ?_))); (case side4 => exact HC1.out); (case side5 => repeat (first | exact (Kd.C_below HR2.out HB.out) | (with_reducible refine Kd.C_alloc ?_ _) | (with_reducible refine Kd.C_drewN ?_ _) | (with_reducible refine Kd.C_drew ?_))); (case side6 => exact HC2.out); rintro e w' ⟨rfl, ⟨nd, rfl⟩⟩; refine ⟨_, rfl, ?_⟩) | ((with_reducible refine gate_callee (f := 10) rfl ?_); refine goesL_ (some 34) rfl rfl Try.func10 (by kernel_rfl) rfl #[.slice A0 l0.length c0, .slice A1 l1.length c1, .slice A2 l2.length c2] rfl (by (try simp only [List.map_toArray, List.map_cons, List.map_nil]); first | done | rfl | (simp only [List.length_drop, List.length_take]; rfl)) ?_; (with_reducible refine (diff3_Chunks.calls k _ _ l0 _ _ l1 _ _ l2 t427 _ ?side1 ?side2 ?side3 ?side4 ?side5 ?side6 A8.out).mono ?_); (case side1 => repeat (first | exact (Kd.C_below HR0.out (by repeat (first | (with_reducible first | exact HB.out | apply below_alloc | apply pw_below_drewN | apply below_drew1) | exact HB.out))) | (with_reducible refine Kd.C_alloc ?_ _) | (with_reducible refine Kd.C_drewN ?_ _) | (with_reducible refine Kd.C_drew ?_))); (case side2 => exact HC0.out); (case side3 => repeat (first | exact (Kd.C_below HR1.out (by repeat (first | (with_reducible first | exact HB.out | apply below_alloc | apply pw_below_drewN | apply below_drew1) | exact HB.out))) | (with_reducible refine Kd.C_alloc ?_ _) | (with_reducible refine Kd.C_drewN ?_ _) | (with_reducible refine Kd.C_drew ?_))); (case side4 => exact HC1.out); (case side5 => repeat (first | exact (Kd.C_below HR2.out (by repeat (first | (with_reducible first | exact HB.out | apply below_alloc | apply pw_below_drewN | apply below_drew1) | exact HB.out))) | (with_reducible refine Kd.C_alloc ?_ _) | (with_reducible refine Kd.C_drewN ?_ _) | (with_reducible refine Kd.C_drew ?_))); (case side6 => exact HC2.out); rintro e w10 ⟨v428, rfl, ho0, hb⟩; refine ⟨_, rfl, ?_⟩; have n0_ := Aside0.mk (Kd.R_lower ho0 (below_size (by repeat (first | (with_reducible first | exact HB.out | apply below_alloc | apply pw_below_drewN | apply below_drew1) | exact HB.out)))); have n1_ := Aside0.mk (below_step (by repeat (first | (with_reducible first | exact HB.out | apply below_alloc | apply pw_below_drewN | apply below_drew1) | exact HB.out)) hb); clear HB; have HO429 := n0_; have HB := n1_; clear n0_ n1_; (try clear hb); (try clear hb2); (try clear hk); (try clear hi); (try clear ho0)))
      go_loopg [10, 11, 12, 13] k (fun kq v10 v11 v12 v13 w' => ∃ (x10_1 : Int) (x11_1 : Int) (x12_1 : Int) (x13_1 : Int), v10 = .int .i64 x10_1 ∧ v11 = .int .i64 x11_1 ∧ v12 = .int .i64 x12_1 ∧ v13 = .int .i64 x13_1 ∧ Aside0 (concordatlaw07_Diff3All.l0 kq l0 l1 l2 t427 x10_1 x11_1 x12_1 x13_1 = some r) ∧ Aside0 (kq ≤ k) ∧ Aside0 (Kd.R k41 41 w' w.heap.size (fun _ => True) v428 t427) ∧ Aside0 (Below w.heap.size w w'))
      case atStart => exact ⟨(0), (0), (0), (0), (by first | rfl | (simp; done) | (simp [*]; done)), (by first | rfl | (simp; done) | (simp [*]; done)), (by first | rfl | (simp; done) | (simp [*]; done)), (by first | rfl | (simp; done) | (simp [*]; done)), H', ⟨Nat.le_refl _⟩, ⟨by (with_reducible repeat (first | apply Kd.R_alloc | apply Kd.R_drewN | apply Kd.R_drew)); first | exact HO429.out | exact Kd.R_mono HO429.out (fun _ _ => trivial)⟩, ⟨by repeat (first | (with_reducible first | exact HB.out | apply below_alloc | apply pw_below_drewN | apply below_drew1) | exact HB.out)⟩⟩
      case round =>
        clear H'
        try clear c1
        try clear c2
        try clear p2
        try clear c5
        try clear c7
        try clear c8
        try clear c9
        try clear c10
        obtain ⟨x10_1, x11_1, x12_1, x13_1, rfl, rfl, rfl, rfl, HA, HK1, HO_9, HB⟩ := hrel
        cases gk with
        | zero => exact absurd HA.out (by simp [concordatlaw07_Diff3All.l0])
        | succ k1 =>
          have H := HA.out
          clear HA
          simp only [concordatlaw07_Diff3All.l0] at H
          by_cases c11 : x13_1 < (t427.length : Int)
          · rw [if_pos c11] at H
            have c11b0 : decide (x13_1 < (t427.length : Int)) = true := decide_eq_true c11
            clear c11
            by_cases c12 : 0 ≤ x13_1
            · rw [if_pos c12] at H
              have c12b0 : decide (0 ≤ x13_1) = true := decide_eq_true c12
              clear c12
              have HC13 := Aside0.mk H
              clear H
              obtain ⟨Ao14, co14, eo14⟩ := Kd.R_slice HO_9.out
              subst eo14
              have p430 : 0 ≤ (x13_1 : Int) := of_decide_eq_true (by first | (with_reducible assumption) | assumption)
              have q430 : x13_1 < (t427.length : Int) := of_decide_eq_true (by first | (with_reducible assumption) | assumption)
              obtain ⟨ad430, e430, hx430_0, hx430_1, hx430_2, hx430_3, hx430_4, hx430_5, hx430_6⟩ := at_T41 (Kd.R_reads' HO_9.out).2.2 x13_1 p430 q430
              cases e430
              replace p430 := eq_true p430
              replace q430 := eq_true q430
              go_upto_region 15 with (first | ((with_reducible refine gate_dst (N := 14) rfl ?_); (try (refine gate_guard (by rfl) ?_; dsimp only)); refine box_event ?hg (N := 14) ?hd (cs := #[.int .i64 0, .int .i64 0, .int .i64 0, .int .i64 0, .int .i64 0, .int .i64 0, .int .i64 0]) (t := 41) ?hr ?_; (case hd => rfl); (case hg => rfl); (case hr => first | (go_simp; done) | (go_simp; rfl)); intro gb431 hg w15 hbox hb; have n0_ := Aside0.mk (Kd.R_below (Kd.R_elderB (by (with_reducible repeat (first | apply Kd.R_alloc | apply Kd.R_drewN | apply Kd.R_drew)); exact HO_9.out) gb431 (Nat.le_of_eq hg.symm)) hb); have n1_ := Aside0.mk (below_step (by repeat (first | (with_reducible first | exact HB.out | apply below_alloc | apply pw_below_drewN | apply below_drew1) | exact HB.out)) hb); have n2_ := Aside0.mk (hbox); have n3_ := Aside0.mk ((by rw [hg]; exact (below_size (by repeat (first | (with_reducible first | exact HB.out | apply below_alloc | apply pw_below_drewN | apply below_drew1) | exact HB.out))) : w.heap.size ≤ gb431)); have n4_ := Aside0.mk ((by rw [hg]; exact (below_size (by repeat (first | (with_reducible first | exact HB.out | apply below_alloc | apply pw_below_drewN | apply below_drew1) | exact HB.out))) : w.heap.size ≤ gb431)); clear HO_9; clear HB; have HO_9 := n0_; have HB := n1_; have BK431 := n2_; have GW431 := n3_; have GE431 := n4_; clear n0_ n1_ n2_ n3_ n4_; clear hb hbox hg; have hcz16_0 : w15.cell? ⟨gb431, 0, none⟩ = some (.int .i64 0) := (blk_cell BK431.out 0).trans rfl; have hcz16_1 : w15.cell? ⟨gb431, 1, none⟩ = some (.int .i64 0) := (blk_cell BK431.out 1).trans rfl; have hcz16_2 : w15.cell? ⟨gb431, 2, none⟩ = some (.int .i64 0) := (blk_cell BK431.out 2).trans rfl; have hcz16_3 : w15.cell? ⟨gb431, 3, none⟩ = some (.int .i64 0) := (blk_cell BK431.out 3).trans rfl; have hcz16_4 : w15.cell? ⟨gb431, 4, none⟩ = some (.int .i64 0) := (blk_cell BK431.out 4).trans rfl; have hcz16_5 : w15.cell? ⟨gb431, 5, none⟩ = some (.int .i64 0) := (blk_cell BK431.out 5).trans rfl; have hcz16_6 : w15.cell? ⟨gb431, 6, none⟩ = some (.int .i64 0) := (blk_cell BK431.out 6).trans rfl; have hfz16_0 := blk_frozen BK431.out 0; have hfz16_1 := blk_frozen BK431.out 1; have hfz16_2 := blk_frozen BK431.out 2; have hfz16_3 := blk_frozen BK431.out 3; have hfz16_4 := blk_frozen BK431.out 4; have hfz16_5 := blk_frozen BK431.out 5; have hfz16_6 := blk_frozen BK431.out 6))
              (try simp only [Act.put, List.setIfInBounds_toArray, List.set_cons_zero, List.set_cons_succ])
              go_cut [108] (fun v108 wc => ∃ (kq : Nat) (x108_12 : Bool), v108 = .bool x108_12 ∧ Aside0 (concordatlaw07_Diff3All.j1 kq l0 l1 l2 t427 x10_1 x11_1 x12_1 x13_1 x108_12 ((rd_T41 t427 x13_1).f0) ((rd_T41 t427 x13_1).f1.f0) ((rd_T41 t427 x13_1).f1.f1) ((rd_T41 t427 x13_1).f2.f0) ((rd_T41 t427 x13_1).f2.f1) ((rd_T41 t427 x13_1).f3.f0) ((rd_T41 t427 x13_1).f3.f1) = some r) ∧ Aside0 (kq ≤ k1) ∧ Aside0 (Kd.R k41 41 wc w.heap.size (fun k_ => k_ ≠ gb431) (.slice (some ad430) t427.length co14) t427) ∧ Aside0 (wc.heap[gb431]? = some (.cells #[.int .i64 ((rd_T41 t427 x13_1).f0), .int .i64 ((rd_T41 t427 x13_1).f1.f0), .int .i64 ((rd_T41 t427 x13_1).f1.f1), .int .i64 ((rd_T41 t427 x13_1).f2.f0), .int .i64 ((rd_T41 t427 x13_1).f2.f1), .int .i64 ((rd_T41 t427 x13_1).f3.f0), .int .i64 ((rd_T41 t427 x13_1).f3.f1)] 41 (0, 0))) ∧ Aside0 (Below w.heap.size w wc))
              case first =>
                have H := HC13.out
                clear HC13
                by_cases c17 : ((rd_T41 t427 x13_1).f1.f0) = x10_1
                · rw [if_pos c17] at H
                  have c17b0 : (((rd_T41 t427 x13_1).f1.f0) == x10_1) = true := beq_iff_eq.mpr c17
                  have c17b1 : (((rd_T41 t427 x13_1).f1.f0) != x10_1) = false := bne_eq_false_iff_eq.mpr c17
                  clear c17
                  (first | rw [c17b0] | (simp only [i64_w, i32_w]; rw [c17b0]) | skip)
                  by_cases c18 : ((rd_T41 t427 x13_1).f2.f0) = x11_1
                  · rw [if_pos c18] at H
                    have c18b0 : (((rd_T41 t427 x13_1).f2.f0) == x11_1) = true := beq_iff_eq.mpr c18
                    have c18b1 : (((rd_T41 t427 x13_1).f2.f0) != x11_1) = false := bne_eq_false_iff_eq.mpr c18
                    clear c18
                    by_cases c19 : ((rd_T41 t427 x13_1).f3.f0) = x12_1
                    · rw [if_pos c19] at H
                      have c19b0 : (((rd_T41 t427 x13_1).f3.f0) == x12_1) = true := beq_iff_eq.mpr c19
                      have c19b1 : (((rd_T41 t427 x13_1).f3.f0) != x12_1) = false := bne_eq_false_iff_eq.mpr c19
                      clear c19
                      by_cases c20 : ((rd_T41 t427 x13_1).f1.f1) < x10_1
                      · rw [if_pos c20] at H
                        have c20b0 : decide (((rd_T41 t427 x13_1).f1.f1) < x10_1) = true := decide_eq_true c20
                        clear c20
                        have H' := Aside0.mk H
                        clear H
                        have hcz21_0 : w15.cell? ⟨gb431, 0, none⟩ = some (.int .i64 0) := (blk_cell BK431.out 0).trans rfl
                        have hcz21_1 : w15.cell? ⟨gb431, 1, none⟩ = some (.int .i64 0) := (blk_cell BK431.out 1).trans rfl
                        have hcz21_2 : w15.cell? ⟨gb431, 2, none⟩ = some (.int .i64 0) := (blk_cell BK431.out 2).trans rfl
                        have hcz21_3 : w15.cell? ⟨gb431, 3, none⟩ = some (.int .i64 0) := (blk_cell BK431.out 3).trans rfl
                        have hcz21_4 : w15.cell? ⟨gb431, 4, none⟩ = some (.int .i64 0) := (blk_cell BK431.out 4).trans rfl
                        have hcz21_5 : w15.cell? ⟨gb431, 5, none⟩ = some (.int .i64 0) := (blk_cell BK431.out 5).trans rfl
                        have hcz21_6 : w15.cell? ⟨gb431, 6, none⟩ = some (.int .i64 0) := (blk_cell BK431.out 6).trans rfl
                        have hfz21_0 := blk_frozen BK431.out 0
                        have hfz21_1 := blk_frozen BK431.out 1
                        have hfz21_2 := blk_frozen BK431.out 2
                        have hfz21_3 := blk_frozen BK431.out 3
                        have hfz21_4 := blk_frozen BK431.out 4
                        have hfz21_5 := blk_frozen BK431.out 5
                        have hfz21_6 := blk_frozen BK431.out 6
                        go_wp2
                        go_meet
                        case rel => exact ⟨_, (true), (by first | rfl | (simp; done) | (simp [*]; done)), H', ⟨by have := HK1.out; first | omega | exact Nat.le_refl _⟩, ⟨by (with_reducible repeat (first | apply Kd.R_alloc | apply Kd.R_drewN | apply Kd.R_drew)); exact Kd.R_mono (Kd.R_far (p := ⟨gb431, 6, none⟩) (Kd.R_far (p := ⟨gb431, 5, none⟩) (Kd.R_far (p := ⟨gb431, 4, none⟩) (Kd.R_far (p := ⟨gb431, 3, none⟩) (Kd.R_far (p := ⟨gb431, 2, none⟩) (Kd.R_far (p := ⟨gb431, 1, none⟩) (Kd.R_far (p := ⟨gb431, 0, none⟩) (Kd.R_mono HO_9.out (fun k_ hk => (⟨hk, hk.2⟩ : _ ∧ k_ ≠ gb431))) (fun _ hk => hk.2) (.int .i64 ((rd_T41 t427 x13_1).f0))) (fun _ hk => hk.2) (.int .i64 ((rd_T41 t427 x13_1).f1.f0))) (fun _ hk => hk.2) (.int .i64 ((rd_T41 t427 x13_1).f1.f1))) (fun _ hk => hk.2) (.int .i64 ((rd_T41 t427 x13_1).f2.f0))) (fun _ hk => hk.2) (.int .i64 ((rd_T41 t427 x13_1).f2.f1))) (fun _ hk => hk.2) (.int .i64 ((rd_T41 t427 x13_1).f3.f0))) (fun _ hk => hk.2) (.int .i64 ((rd_T41 t427 x13_1).f3.f1))) (fun _ hk => hk.1.2)⟩, ⟨by (with_reducible repeat (first | refine blk_drewN ?_ _ | refine blk_drew ?_ | refine blk_alloc ?_ _)); refine blk_put (cs := #[.int .i64 ((rd_T41 t427 x13_1).f0), .int .i64 ((rd_T41 t427 x13_1).f1.f0), .int .i64 ((rd_T41 t427 x13_1).f1.f1), .int .i64 ((rd_T41 t427 x13_1).f2.f0), .int .i64 ((rd_T41 t427 x13_1).f2.f1), .int .i64 ((rd_T41 t427 x13_1).f3.f0), .int .i64 0]) ?_ 6 _ rfl; (with_reducible repeat (first | refine blk_drewN ?_ _ | refine blk_drew ?_ | refine blk_alloc ?_ _)); refine blk_put (cs := #[.int .i64 ((rd_T41 t427 x13_1).f0), .int .i64 ((rd_T41 t427 x13_1).f1.f0), .int .i64 ((rd_T41 t427 x13_1).f1.f1), .int .i64 ((rd_T41 t427 x13_1).f2.f0), .int .i64 ((rd_T41 t427 x13_1).f2.f1), .int .i64 0, .int .i64 0]) ?_ 5 _ rfl; (with_reducible repeat (first | refine blk_drewN ?_ _ | refine blk_drew ?_ | refine blk_alloc ?_ _)); refine blk_put (cs := #[.int .i64 ((rd_T41 t427 x13_1).f0), .int .i64 ((rd_T41 t427 x13_1).f1.f0), .int .i64 ((rd_T41 t427 x13_1).f1.f1), .int .i64 ((rd_T41 t427 x13_1).f2.f0), .int .i64 0, .int .i64 0, .int .i64 0]) ?_ 4 _ rfl; (with_reducible repeat (first | refine blk_drewN ?_ _ | refine blk_drew ?_ | refine blk_alloc ?_ _)); refine blk_put (cs := #[.int .i64 ((rd_T41 t427 x13_1).f0), .int .i64 ((rd_T41 t427 x13_1).f1.f0), .int .i64 ((rd_T41 t427 x13_1).f1.f1), .int .i64 0, .int .i64 0, .int .i64 0, .int .i64 0]) ?_ 3 _ rfl; (with_reducible repeat (first | refine blk_drewN ?_ _ | refine blk_drew ?_ | refine blk_alloc ?_ _)); refine blk_put (cs := #[.int .i64 ((rd_T41 t427 x13_1).f0), .int .i64 ((rd_T41 t427 x13_1).f1.f0), .int .i64 0, .int .i64 0, .int .i64 0, .int .i64 0, .int .i64 0]) ?_ 2 _ rfl; (with_reducible repeat (first | refine blk_drewN ?_ _ | refine blk_drew ?_ | refine blk_alloc ?_ _)); refine blk_put (cs := #[.int .i64 ((rd_T41 t427 x13_1).f0), .int .i64 0, .int .i64 0, .int .i64 0, .int .i64 0, .int .i64 0, .int .i64 0]) ?_ 1 _ rfl; (with_reducible repeat (first | refine blk_drewN ?_ _ | refine blk_drew ?_ | refine blk_alloc ?_ _)); refine blk_put (cs := #[.int .i64 0, .int .i64 0, .int .i64 0, .int .i64 0, .int .i64 0, .int .i64 0, .int .i64 0]) ?_ 0 _ rfl; (with_reducible repeat (first | refine blk_drewN ?_ _ | refine blk_drew ?_ | refine blk_alloc ?_ _)); exact BK431.out⟩, ⟨by repeat (first | (with_reducible first | exact HB.out | apply below_alloc | apply pw_below_drewN | apply below_drew1 | refine below_set ?_ GE431.out) | exact HB.out)⟩⟩
                      · rw [if_neg c20] at H
                        have c20b0 : decide (((rd_T41 t427 x13_1).f1.f1) < x10_1) = false := decide_eq_false c20
                        clear c20
                        by_cases c22 : ((rd_T41 t427 x13_1).f2.f1) < x11_1
                        · rw [if_pos c22] at H
                          have c22b0 : decide (((rd_T41 t427 x13_1).f2.f1) < x11_1) = true := decide_eq_true c22
                          clear c22
                          have H' := Aside0.mk H
                          clear H
                          have hcz23_0 : w15.cell? ⟨gb431, 0, none⟩ = some (.int .i64 0) := (blk_cell BK431.out 0).trans rfl
                          have hcz23_1 : w15.cell? ⟨gb431, 1, none⟩ = some (.int .i64 0) := (blk_cell BK431.out 1).trans rfl
                          have hcz23_2 : w15.cell? ⟨gb431, 2, none⟩ = some (.int .i64 0) := (blk_cell BK431.out 2).trans rfl
                          have hcz23_3 : w15.cell? ⟨gb431, 3, none⟩ = some (.int .i64 0) := (blk_cell BK431.out 3).trans rfl
                          have hcz23_4 : w15.cell? ⟨gb431, 4, none⟩ = some (.int .i64 0) := (blk_cell BK431.out 4).trans rfl
                          have hcz23_5 : w15.cell? ⟨gb431, 5, none⟩ = some (.int .i64 0) := (blk_cell BK431.out 5).trans rfl
                          have hcz23_6 : w15.cell? ⟨gb431, 6, none⟩ = some (.int .i64 0) := (blk_cell BK431.out 6).trans rfl
                          have hfz23_0 := blk_frozen BK431.out 0
                          have hfz23_1 := blk_frozen BK431.out 1
                          have hfz23_2 := blk_frozen BK431.out 2
                          have hfz23_3 := blk_frozen BK431.out 3
                          have hfz23_4 := blk_frozen BK431.out 4
                          have hfz23_5 := blk_frozen BK431.out 5
                          have hfz23_6 := blk_frozen BK431.out 6
                          go_wp2
                          go_meet
                          case rel => exact ⟨_, (true), (by first | rfl | (simp; done) | (simp [*]; done)), H', ⟨by have := HK1.out; first | omega | exact Nat.le_refl _⟩, ⟨by (with_reducible repeat (first | apply Kd.R_alloc | apply Kd.R_drewN | apply Kd.R_drew)); exact Kd.R_mono (Kd.R_far (p := ⟨gb431, 6, none⟩) (Kd.R_far (p := ⟨gb431, 5, none⟩) (Kd.R_far (p := ⟨gb431, 4, none⟩) (Kd.R_far (p := ⟨gb431, 3, none⟩) (Kd.R_far (p := ⟨gb431, 2, none⟩) (Kd.R_far (p := ⟨gb431, 1, none⟩) (Kd.R_far (p := ⟨gb431, 0, none⟩) (Kd.R_mono HO_9.out (fun k_ hk => (⟨hk, hk.2⟩ : _ ∧ k_ ≠ gb431))) (fun _ hk => hk.2) (.int .i64 ((rd_T41 t427 x13_1).f0))) (fun _ hk => hk.2) (.int .i64 ((rd_T41 t427 x13_1).f1.f0))) (fun _ hk => hk.2) (.int .i64 ((rd_T41 t427 x13_1).f1.f1))) (fun _ hk => hk.2) (.int .i64 ((rd_T41 t427 x13_1).f2.f0))) (fun _ hk => hk.2) (.int .i64 ((rd_T41 t427 x13_1).f2.f1))) (fun _ hk => hk.2) (.int .i64 ((rd_T41 t427 x13_1).f3.f0))) (fun _ hk => hk.2) (.int .i64 ((rd_T41 t427 x13_1).f3.f1))) (fun _ hk => hk.1.2)⟩, ⟨by (with_reducible repeat (first | refine blk_drewN ?_ _ | refine blk_drew ?_ | refine blk_alloc ?_ _)); refine blk_put (cs := #[.int .i64 ((rd_T41 t427 x13_1).f0), .int .i64 ((rd_T41 t427 x13_1).f1.f0), .int .i64 ((rd_T41 t427 x13_1).f1.f1), .int .i64 ((rd_T41 t427 x13_1).f2.f0), .int .i64 ((rd_T41 t427 x13_1).f2.f1), .int .i64 ((rd_T41 t427 x13_1).f3.f0), .int .i64 0]) ?_ 6 _ rfl; (with_reducible repeat (first | refine blk_drewN ?_ _ | refine blk_drew ?_ | refine blk_alloc ?_ _)); refine blk_put (cs := #[.int .i64 ((rd_T41 t427 x13_1).f0), .int .i64 ((rd_T41 t427 x13_1).f1.f0), .int .i64 ((rd_T41 t427 x13_1).f1.f1), .int .i64 ((rd_T41 t427 x13_1).f2.f0), .int .i64 ((rd_T41 t427 x13_1).f2.f1), .int .i64 0, .int .i64 0]) ?_ 5 _ rfl; (with_reducible repeat (first | refine blk_drewN ?_ _ | refine blk_drew ?_ | refine blk_alloc ?_ _)); refine blk_put (cs := #[.int .i64 ((rd_T41 t427 x13_1).f0), .int .i64 ((rd_T41 t427 x13_1).f1.f0), .int .i64 ((rd_T41 t427 x13_1).f1.f1), .int .i64 ((rd_T41 t427 x13_1).f2.f0), .int .i64 0, .int .i64 0, .int .i64 0]) ?_ 4 _ rfl; (with_reducible repeat (first | refine blk_drewN ?_ _ | refine blk_drew ?_ | refine blk_alloc ?_ _)); refine blk_put (cs := #[.int .i64 ((rd_T41 t427 x13_1).f0), .int .i64 ((rd_T41 t427 x13_1).f1.f0), .int .i64 ((rd_T41 t427 x13_1).f1.f1), .int .i64 0, .int .i64 0, .int .i64 0, .int .i64 0]) ?_ 3 _ rfl; (with_reducible repeat (first | refine blk_drewN ?_ _ | refine blk_drew ?_ | refine blk_alloc ?_ _)); refine blk_put (cs := #[.int .i64 ((rd_T41 t427 x13_1).f0), .int .i64 ((rd_T41 t427 x13_1).f1.f0), .int .i64 0, .int .i64 0, .int .i64 0, .int .i64 0, .int .i64 0]) ?_ 2 _ rfl; (with_reducible repeat (first | refine blk_drewN ?_ _ | refine blk_drew ?_ | refine blk_alloc ?_ _)); refine blk_put (cs := #[.int .i64 ((rd_T41 t427 x13_1).f0), .int .i64 0, .int .i64 0, .int .i64 0, .int .i64 0, .int .i64 0, .int .i64 0]) ?_ 1 _ rfl; (with_reducible repeat (first | refine blk_drewN ?_ _ | refine blk_drew ?_ | refine blk_alloc ?_ _)); refine blk_put (cs := #[.int .i64 0, .int .i64 0, .int .i64 0, .int .i64 0, .int .i64 0, .int .i64 0, .int .i64 0]) ?_ 0 _ rfl; (with_reducible repeat (first | refine blk_drewN ?_ _ | refine blk_drew ?_ | refine blk_alloc ?_ _)); exact BK431.out⟩, ⟨by repeat (first | (with_reducible first | exact HB.out | apply below_alloc | apply pw_below_drewN | apply below_drew1 | refine below_set ?_ GE431.out) | exact HB.out)⟩⟩
                        · rw [if_neg c22] at H
                          have c22b0 : decide (((rd_T41 t427 x13_1).f2.f1) < x11_1) = false := decide_eq_false c22
                          clear c22
                          by_cases c24 : ((rd_T41 t427 x13_1).f3.f1) < x12_1
                          · rw [if_pos c24] at H
                            have c24b0 : decide (((rd_T41 t427 x13_1).f3.f1) < x12_1) = true := decide_eq_true c24
                            clear c24
                            have H' := Aside0.mk H
                            clear H
                            have hcz25_0 : w15.cell? ⟨gb431, 0, none⟩ = some (.int .i64 0) := (blk_cell BK431.out 0).trans rfl
                            have hcz25_1 : w15.cell? ⟨gb431, 1, none⟩ = some (.int .i64 0) := (blk_cell BK431.out 1).trans rfl
                            have hcz25_2 : w15.cell? ⟨gb431, 2, none⟩ = some (.int .i64 0) := (blk_cell BK431.out 2).trans rfl
                            have hcz25_3 : w15.cell? ⟨gb431, 3, none⟩ = some (.int .i64 0) := (blk_cell BK431.out 3).trans rfl
                            have hcz25_4 : w15.cell? ⟨gb431, 4, none⟩ = some (.int .i64 0) := (blk_cell BK431.out 4).trans rfl
                            have hcz25_5 : w15.cell? ⟨gb431, 5, none⟩ = some (.int .i64 0) := (blk_cell BK431.out 5).trans rfl
                            have hcz25_6 : w15.cell? ⟨gb431, 6, none⟩ = some (.int .i64 0) := (blk_cell BK431.out 6).trans rfl
                            have hfz25_0 := blk_frozen BK431.out 0
                            have hfz25_1 := blk_frozen BK431.out 1
                            have hfz25_2 := blk_frozen BK431.out 2
                            have hfz25_3 := blk_frozen BK431.out 3
                            have hfz25_4 := blk_frozen BK431.out 4
                            have hfz25_5 := blk_frozen BK431.out 5
                            have hfz25_6 := blk_frozen BK431.out 6
                            go_wp2
                            go_meet
                            case rel => exact ⟨_, (true), (by first | rfl | (simp; done) | (simp [*]; done)), H', ⟨by have := HK1.out; first | omega | exact Nat.le_refl _⟩, ⟨by (with_reducible repeat (first | apply Kd.R_alloc | apply Kd.R_drewN | apply Kd.R_drew)); exact Kd.R_mono (Kd.R_far (p := ⟨gb431, 6, none⟩) (Kd.R_far (p := ⟨gb431, 5, none⟩) (Kd.R_far (p := ⟨gb431, 4, none⟩) (Kd.R_far (p := ⟨gb431, 3, none⟩) (Kd.R_far (p := ⟨gb431, 2, none⟩) (Kd.R_far (p := ⟨gb431, 1, none⟩) (Kd.R_far (p := ⟨gb431, 0, none⟩) (Kd.R_mono HO_9.out (fun k_ hk => (⟨hk, hk.2⟩ : _ ∧ k_ ≠ gb431))) (fun _ hk => hk.2) (.int .i64 ((rd_T41 t427 x13_1).f0))) (fun _ hk => hk.2) (.int .i64 ((rd_T41 t427 x13_1).f1.f0))) (fun _ hk => hk.2) (.int .i64 ((rd_T41 t427 x13_1).f1.f1))) (fun _ hk => hk.2) (.int .i64 ((rd_T41 t427 x13_1).f2.f0))) (fun _ hk => hk.2) (.int .i64 ((rd_T41 t427 x13_1).f2.f1))) (fun _ hk => hk.2) (.int .i64 ((rd_T41 t427 x13_1).f3.f0))) (fun _ hk => hk.2) (.int .i64 ((rd_T41 t427 x13_1).f3.f1))) (fun _ hk => hk.1.2)⟩, ⟨by (with_reducible repeat (first | refine blk_drewN ?_ _ | refine blk_drew ?_ | refine blk_alloc ?_ _)); refine blk_put (cs := #[.int .i64 ((rd_T41 t427 x13_1).f0), .int .i64 ((rd_T41 t427 x13_1).f1.f0), .int .i64 ((rd_T41 t427 x13_1).f1.f1), .int .i64 ((rd_T41 t427 x13_1).f2.f0), .int .i64 ((rd_T41 t427 x13_1).f2.f1), .int .i64 ((rd_T41 t427 x13_1).f3.f0), .int .i64 0]) ?_ 6 _ rfl; (with_reducible repeat (first | refine blk_drewN ?_ _ | refine blk_drew ?_ | refine blk_alloc ?_ _)); refine blk_put (cs := #[.int .i64 ((rd_T41 t427 x13_1).f0), .int .i64 ((rd_T41 t427 x13_1).f1.f0), .int .i64 ((rd_T41 t427 x13_1).f1.f1), .int .i64 ((rd_T41 t427 x13_1).f2.f0), .int .i64 ((rd_T41 t427 x13_1).f2.f1), .int .i64 0, .int .i64 0]) ?_ 5 _ rfl; (with_reducible repeat (first | refine blk_drewN ?_ _ | refine blk_drew ?_ | refine blk_alloc ?_ _)); refine blk_put (cs := #[.int .i64 ((rd_T41 t427 x13_1).f0), .int .i64 ((rd_T41 t427 x13_1).f1.f0), .int .i64 ((rd_T41 t427 x13_1).f1.f1), .int .i64 ((rd_T41 t427 x13_1).f2.f0), .int .i64 0, .int .i64 0, .int .i64 0]) ?_ 4 _ rfl; (with_reducible repeat (first | refine blk_drewN ?_ _ | refine blk_drew ?_ | refine blk_alloc ?_ _)); refine blk_put (cs := #[.int .i64 ((rd_T41 t427 x13_1).f0), .int .i64 ((rd_T41 t427 x13_1).f1.f0), .int .i64 ((rd_T41 t427 x13_1).f1.f1), .int .i64 0, .int .i64 0, .int .i64 0, .int .i64 0]) ?_ 3 _ rfl; (with_reducible repeat (first | refine blk_drewN ?_ _ | refine blk_drew ?_ | refine blk_alloc ?_ _)); refine blk_put (cs := #[.int .i64 ((rd_T41 t427 x13_1).f0), .int .i64 ((rd_T41 t427 x13_1).f1.f0), .int .i64 0, .int .i64 0, .int .i64 0, .int .i64 0, .int .i64 0]) ?_ 2 _ rfl; (with_reducible repeat (first | refine blk_drewN ?_ _ | refine blk_drew ?_ | refine blk_alloc ?_ _)); refine blk_put (cs := #[.int .i64 ((rd_T41 t427 x13_1).f0), .int .i64 0, .int .i64 0, .int .i64 0, .int .i64 0, .int .i64 0, .int .i64 0]) ?_ 1 _ rfl; (with_reducible repeat (first | refine blk_drewN ?_ _ | refine blk_drew ?_ | refine blk_alloc ?_ _)); refine blk_put (cs := #[.int .i64 0, .int .i64 0, .int .i64 0, .int .i64 0, .int .i64 0, .int .i64 0, .int .i64 0]) ?_ 0 _ rfl; (with_reducible repeat (first | refine blk_drewN ?_ _ | refine blk_drew ?_ | refine blk_alloc ?_ _)); exact BK431.out⟩, ⟨by repeat (first | (with_reducible first | exact HB.out | apply below_alloc | apply pw_below_drewN | apply below_drew1 | refine below_set ?_ GE431.out) | exact HB.out)⟩⟩
                          · rw [if_neg c24] at H
                            have c24b0 : decide (((rd_T41 t427 x13_1).f3.f1) < x12_1) = false := decide_eq_false c24
                            clear c24
                            by_cases c26 : ((rd_T41 t427 x13_1).f1.f1) > (l0.length : Int)
                            · rw [if_pos c26] at H
                              have c26b0 : decide ((l0.length : Int) < ((rd_T41 t427 x13_1).f1.f1)) = true := decide_eq_true c26
                              clear c26
                              have H' := Aside0.mk H
                              clear H
                              have hcz27_0 : w15.cell? ⟨gb431, 0, none⟩ = some (.int .i64 0) := (blk_cell BK431.out 0).trans rfl
                              have hcz27_1 : w15.cell? ⟨gb431, 1, none⟩ = some (.int .i64 0) := (blk_cell BK431.out 1).trans rfl
                              have hcz27_2 : w15.cell? ⟨gb431, 2, none⟩ = some (.int .i64 0) := (blk_cell BK431.out 2).trans rfl
                              have hcz27_3 : w15.cell? ⟨gb431, 3, none⟩ = some (.int .i64 0) := (blk_cell BK431.out 3).trans rfl
                              have hcz27_4 : w15.cell? ⟨gb431, 4, none⟩ = some (.int .i64 0) := (blk_cell BK431.out 4).trans rfl
                              have hcz27_5 : w15.cell? ⟨gb431, 5, none⟩ = some (.int .i64 0) := (blk_cell BK431.out 5).trans rfl
                              have hcz27_6 : w15.cell? ⟨gb431, 6, none⟩ = some (.int .i64 0) := (blk_cell BK431.out 6).trans rfl
                              have hfz27_0 := blk_frozen BK431.out 0
                              have hfz27_1 := blk_frozen BK431.out 1
                              have hfz27_2 := blk_frozen BK431.out 2
                              have hfz27_3 := blk_frozen BK431.out 3
                              have hfz27_4 := blk_frozen BK431.out 4
                              have hfz27_5 := blk_frozen BK431.out 5
                              have hfz27_6 := blk_frozen BK431.out 6
                              go_wp2
                              go_meet
                              case rel => exact ⟨_, (true), (by first | rfl | (simp; done) | (simp [*]; done)), H', ⟨by have := HK1.out; first | omega | exact Nat.le_refl _⟩, ⟨by (with_reducible repeat (first | apply Kd.R_alloc | apply Kd.R_drewN | apply Kd.R_drew)); exact Kd.R_mono (Kd.R_far (p := ⟨gb431, 6, none⟩) (Kd.R_far (p := ⟨gb431, 5, none⟩) (Kd.R_far (p := ⟨gb431, 4, none⟩) (Kd.R_far (p := ⟨gb431, 3, none⟩) (Kd.R_far (p := ⟨gb431, 2, none⟩) (Kd.R_far (p := ⟨gb431, 1, none⟩) (Kd.R_far (p := ⟨gb431, 0, none⟩) (Kd.R_mono HO_9.out (fun k_ hk => (⟨hk, hk.2⟩ : _ ∧ k_ ≠ gb431))) (fun _ hk => hk.2) (.int .i64 ((rd_T41 t427 x13_1).f0))) (fun _ hk => hk.2) (.int .i64 ((rd_T41 t427 x13_1).f1.f0))) (fun _ hk => hk.2) (.int .i64 ((rd_T41 t427 x13_1).f1.f1))) (fun _ hk => hk.2) (.int .i64 ((rd_T41 t427 x13_1).f2.f0))) (fun _ hk => hk.2) (.int .i64 ((rd_T41 t427 x13_1).f2.f1))) (fun _ hk => hk.2) (.int .i64 ((rd_T41 t427 x13_1).f3.f0))) (fun _ hk => hk.2) (.int .i64 ((rd_T41 t427 x13_1).f3.f1))) (fun _ hk => hk.1.2)⟩, ⟨by (with_reducible repeat (first | refine blk_drewN ?_ _ | refine blk_drew ?_ | refine blk_alloc ?_ _)); refine blk_put (cs := #[.int .i64 ((rd_T41 t427 x13_1).f0), .int .i64 ((rd_T41 t427 x13_1).f1.f0), .int .i64 ((rd_T41 t427 x13_1).f1.f1), .int .i64 ((rd_T41 t427 x13_1).f2.f0), .int .i64 ((rd_T41 t427 x13_1).f2.f1), .int .i64 ((rd_T41 t427 x13_1).f3.f0), .int .i64 0]) ?_ 6 _ rfl; (with_reducible repeat (first | refine blk_drewN ?_ _ | refine blk_drew ?_ | refine blk_alloc ?_ _)); refine blk_put (cs := #[.int .i64 ((rd_T41 t427 x13_1).f0), .int .i64 ((rd_T41 t427 x13_1).f1.f0), .int .i64 ((rd_T41 t427 x13_1).f1.f1), .int .i64 ((rd_T41 t427 x13_1).f2.f0), .int .i64 ((rd_T41 t427 x13_1).f2.f1), .int .i64 0, .int .i64 0]) ?_ 5 _ rfl; (with_reducible repeat (first | refine blk_drewN ?_ _ | refine blk_drew ?_ | refine blk_alloc ?_ _)); refine blk_put (cs := #[.int .i64 ((rd_T41 t427 x13_1).f0), .int .i64 ((rd_T41 t427 x13_1).f1.f0), .int .i64 ((rd_T41 t427 x13_1).f1.f1), .int .i64 ((rd_T41 t427 x13_1).f2.f0), .int .i64 0, .int .i64 0, .int .i64 0]) ?_ 4 _ rfl; (with_reducible repeat (first | refine blk_drewN ?_ _ | refine blk_drew ?_ | refine blk_alloc ?_ _)); refine blk_put (cs := #[.int .i64 ((rd_T41 t427 x13_1).f0), .int .i64 ((rd_T41 t427 x13_1).f1.f0), .int .i64 ((rd_T41 t427 x13_1).f1.f1), .int .i64 0, .int .i64 0, .int .i64 0, .int .i64 0]) ?_ 3 _ rfl; (with_reducible repeat (first | refine blk_drewN ?_ _ | refine blk_drew ?_ | refine blk_alloc ?_ _)); refine blk_put (cs := #[.int .i64 ((rd_T41 t427 x13_1).f0), .int .i64 ((rd_T41 t427 x13_1).f1.f0), .int .i64 0, .int .i64 0, .int .i64 0, .int .i64 0, .int .i64 0]) ?_ 2 _ rfl; (with_reducible repeat (first | refine blk_drewN ?_ _ | refine blk_drew ?_ | refine blk_alloc ?_ _)); refine blk_put (cs := #[.int .i64 ((rd_T41 t427 x13_1).f0), .int .i64 0, .int .i64 0, .int .i64 0, .int .i64 0, .int .i64 0, .int .i64 0]) ?_ 1 _ rfl; (with_reducible repeat (first | refine blk_drewN ?_ _ | refine blk_drew ?_ | refine blk_alloc ?_ _)); refine blk_put (cs := #[.int .i64 0, .int .i64 0, .int .i64 0, .int .i64 0, .int .i64 0, .int .i64 0, .int .i64 0]) ?_ 0 _ rfl; (with_reducible repeat (first | refine blk_drewN ?_ _ | refine blk_drew ?_ | refine blk_alloc ?_ _)); exact BK431.out⟩, ⟨by repeat (first | (with_reducible first | exact HB.out | apply below_alloc | apply pw_below_drewN | apply below_drew1 | refine below_set ?_ GE431.out) | exact HB.out)⟩⟩
                            · rw [if_neg c26] at H
                              have c26b0 : decide ((l0.length : Int) < ((rd_T41 t427 x13_1).f1.f1)) = false := decide_eq_false c26
                              clear c26
                              by_cases c28 : ((rd_T41 t427 x13_1).f2.f1) > (l1.length : Int)
                              · rw [if_pos c28] at H
                                have c28b0 : decide ((l1.length : Int) < ((rd_T41 t427 x13_1).f2.f1)) = true := decide_eq_true c28
                                clear c28
                                have H' := Aside0.mk H
                                clear H
                                have hcz29_0 : w15.cell? ⟨gb431, 0, none⟩ = some (.int .i64 0) := (blk_cell BK431.out 0).trans rfl
                                have hcz29_1 : w15.cell? ⟨gb431, 1, none⟩ = some (.int .i64 0) := (blk_cell BK431.out 1).trans rfl
                                have hcz29_2 : w15.cell? ⟨gb431, 2, none⟩ = some (.int .i64 0) := (blk_cell BK431.out 2).trans rfl
                                have hcz29_3 : w15.cell? ⟨gb431, 3, none⟩ = some (.int .i64 0) := (blk_cell BK431.out 3).trans rfl
                                have hcz29_4 : w15.cell? ⟨gb431, 4, none⟩ = some (.int .i64 0) := (blk_cell BK431.out 4).trans rfl
                                have hcz29_5 : w15.cell? ⟨gb431, 5, none⟩ = some (.int .i64 0) := (blk_cell BK431.out 5).trans rfl
                                have hcz29_6 : w15.cell? ⟨gb431, 6, none⟩ = some (.int .i64 0) := (blk_cell BK431.out 6).trans rfl
                                have hfz29_0 := blk_frozen BK431.out 0
                                have hfz29_1 := blk_frozen BK431.out 1
                                have hfz29_2 := blk_frozen BK431.out 2
                                have hfz29_3 := blk_frozen BK431.out 3
                                have hfz29_4 := blk_frozen BK431.out 4
                                have hfz29_5 := blk_frozen BK431.out 5
                                have hfz29_6 := blk_frozen BK431.out 6
                                go_wp2
                                go_meet
                                case rel => exact ⟨_, (true), (by first | rfl | (simp; done) | (simp [*]; done)), H', ⟨by have := HK1.out; first | omega | exact Nat.le_refl _⟩, ⟨by (with_reducible repeat (first | apply Kd.R_alloc | apply Kd.R_drewN | apply Kd.R_drew)); exact Kd.R_mono (Kd.R_far (p := ⟨gb431, 6, none⟩) (Kd.R_far (p := ⟨gb431, 5, none⟩) (Kd.R_far (p := ⟨gb431, 4, none⟩) (Kd.R_far (p := ⟨gb431, 3, none⟩) (Kd.R_far (p := ⟨gb431, 2, none⟩) (Kd.R_far (p := ⟨gb431, 1, none⟩) (Kd.R_far (p := ⟨gb431, 0, none⟩) (Kd.R_mono HO_9.out (fun k_ hk => (⟨hk, hk.2⟩ : _ ∧ k_ ≠ gb431))) (fun _ hk => hk.2) (.int .i64 ((rd_T41 t427 x13_1).f0))) (fun _ hk => hk.2) (.int .i64 ((rd_T41 t427 x13_1).f1.f0))) (fun _ hk => hk.2) (.int .i64 ((rd_T41 t427 x13_1).f1.f1))) (fun _ hk => hk.2) (.int .i64 ((rd_T41 t427 x13_1).f2.f0))) (fun _ hk => hk.2) (.int .i64 ((rd_T41 t427 x13_1).f2.f1))) (fun _ hk => hk.2) (.int .i64 ((rd_T41 t427 x13_1).f3.f0))) (fun _ hk => hk.2) (.int .i64 ((rd_T41 t427 x13_1).f3.f1))) (fun _ hk => hk.1.2)⟩, ⟨by (with_reducible repeat (first | refine blk_drewN ?_ _ | refine blk_drew ?_ | refine blk_alloc ?_ _)); refine blk_put (cs := #[.int .i64 ((rd_T41 t427 x13_1).f0), .int .i64 ((rd_T41 t427 x13_1).f1.f0), .int .i64 ((rd_T41 t427 x13_1).f1.f1), .int .i64 ((rd_T41 t427 x13_1).f2.f0), .int .i64 ((rd_T41 t427 x13_1).f2.f1), .int .i64 ((rd_T41 t427 x13_1).f3.f0), .int .i64 0]) ?_ 6 _ rfl; (with_reducible repeat (first | refine blk_drewN ?_ _ | refine blk_drew ?_ | refine blk_alloc ?_ _)); refine blk_put (cs := #[.int .i64 ((rd_T41 t427 x13_1).f0), .int .i64 ((rd_T41 t427 x13_1).f1.f0), .int .i64 ((rd_T41 t427 x13_1).f1.f1), .int .i64 ((rd_T41 t427 x13_1).f2.f0), .int .i64 ((rd_T41 t427 x13_1).f2.f1), .int .i64 0, .int .i64 0]) ?_ 5 _ rfl; (with_reducible repeat (first | refine blk_drewN ?_ _ | refine blk_drew ?_ | refine blk_alloc ?_ _)); refine blk_put (cs := #[.int .i64 ((rd_T41 t427 x13_1).f0), .int .i64 ((rd_T41 t427 x13_1).f1.f0), .int .i64 ((rd_T41 t427 x13_1).f1.f1), .int .i64 ((rd_T41 t427 x13_1).f2.f0), .int .i64 0, .int .i64 0, .int .i64 0]) ?_ 4 _ rfl; (with_reducible repeat (first | refine blk_drewN ?_ _ | refine blk_drew ?_ | refine blk_alloc ?_ _)); refine blk_put (cs := #[.int .i64 ((rd_T41 t427 x13_1).f0), .int .i64 ((rd_T41 t427 x13_1).f1.f0), .int .i64 ((rd_T41 t427 x13_1).f1.f1), .int .i64 0, .int .i64 0, .int .i64 0, .int .i64 0]) ?_ 3 _ rfl; (with_reducible repeat (first | refine blk_drewN ?_ _ | refine blk_drew ?_ | refine blk_alloc ?_ _)); refine blk_put (cs := #[.int .i64 ((rd_T41 t427 x13_1).f0), .int .i64 ((rd_T41 t427 x13_1).f1.f0), .int .i64 0, .int .i64 0, .int .i64 0, .int .i64 0, .int .i64 0]) ?_ 2 _ rfl; (with_reducible repeat (first | refine blk_drewN ?_ _ | refine blk_drew ?_ | refine blk_alloc ?_ _)); refine blk_put (cs := #[.int .i64 ((rd_T41 t427 x13_1).f0), .int .i64 0, .int .i64 0, .int .i64 0, .int .i64 0, .int .i64 0, .int .i64 0]) ?_ 1 _ rfl; (with_reducible repeat (first | refine blk_drewN ?_ _ | refine blk_drew ?_ | refine blk_alloc ?_ _)); refine blk_put (cs := #[.int .i64 0, .int .i64 0, .int .i64 0, .int .i64 0, .int .i64 0, .int .i64 0, .int .i64 0]) ?_ 0 _ rfl; (with_reducible repeat (first | refine blk_drewN ?_ _ | refine blk_drew ?_ | refine blk_alloc ?_ _)); exact BK431.out⟩, ⟨by repeat (first | (with_reducible first | exact HB.out | apply below_alloc | apply pw_below_drewN | apply below_drew1 | refine below_set ?_ GE431.out) | exact HB.out)⟩⟩
                              · rw [if_neg c28] at H
                                have c28b0 : decide ((l1.length : Int) < ((rd_T41 t427 x13_1).f2.f1)) = false := decide_eq_false c28
                                clear c28
                                have H' := Aside0.mk H
                                clear H
                                have hcz30_0 : w15.cell? ⟨gb431, 0, none⟩ = some (.int .i64 0) := (blk_cell BK431.out 0).trans rfl
                                have hcz30_1 : w15.cell? ⟨gb431, 1, none⟩ = some (.int .i64 0) := (blk_cell BK431.out 1).trans rfl
                                have hcz30_2 : w15.cell? ⟨gb431, 2, none⟩ = some (.int .i64 0) := (blk_cell BK431.out 2).trans rfl
                                have hcz30_3 : w15.cell? ⟨gb431, 3, none⟩ = some (.int .i64 0) := (blk_cell BK431.out 3).trans rfl
                                have hcz30_4 : w15.cell? ⟨gb431, 4, none⟩ = some (.int .i64 0) := (blk_cell BK431.out 4).trans rfl
                                have hcz30_5 : w15.cell? ⟨gb431, 5, none⟩ = some (.int .i64 0) := (blk_cell BK431.out 5).trans rfl
                                have hcz30_6 : w15.cell? ⟨gb431, 6, none⟩ = some (.int .i64 0) := (blk_cell BK431.out 6).trans rfl
                                have hfz30_0 := blk_frozen BK431.out 0
                                have hfz30_1 := blk_frozen BK431.out 1
                                have hfz30_2 := blk_frozen BK431.out 2
                                have hfz30_3 := blk_frozen BK431.out 3
                                have hfz30_4 := blk_frozen BK431.out 4
                                have hfz30_5 := blk_frozen BK431.out 5
                                have hfz30_6 := blk_frozen BK431.out 6
                                go_wp2
                                go_meet
                                case rel => exact ⟨_, (decide (((rd_T41 t427 x13_1).f3.f1) > (l2.length : Int))), (by first | rfl | (simp; done) | (simp [*]; done)), H', ⟨by have := HK1.out; first | omega | exact Nat.le_refl _⟩, ⟨by (with_reducible repeat (first | apply Kd.R_alloc | apply Kd.R_drewN | apply Kd.R_drew)); exact Kd.R_mono (Kd.R_far (p := ⟨gb431, 6, none⟩) (Kd.R_far (p := ⟨gb431, 5, none⟩) (Kd.R_far (p := ⟨gb431, 4, none⟩) (Kd.R_far (p := ⟨gb431, 3, none⟩) (Kd.R_far (p := ⟨gb431, 2, none⟩) (Kd.R_far (p := ⟨gb431, 1, none⟩) (Kd.R_far (p := ⟨gb431, 0, none⟩) (Kd.R_mono HO_9.out (fun k_ hk => (⟨hk, hk.2⟩ : _ ∧ k_ ≠ gb431))) (fun _ hk => hk.2) (.int .i64 ((rd_T41 t427 x13_1).f0))) (fun _ hk => hk.2) (.int .i64 ((rd_T41 t427 x13_1).f1.f0))) (fun _ hk => hk.2) (.int .i64 ((rd_T41 t427 x13_1).f1.f1))) (fun _ hk => hk.2) (.int .i64 ((rd_T41 t427 x13_1).f2.f0))) (fun _ hk => hk.2) (.int .i64 ((rd_T41 t427 x13_1).f2.f1))) (fun _ hk => hk.2) (.int .i64 ((rd_T41 t427 x13_1).f3.f0))) (fun _ hk => hk.2) (.int .i64 ((rd_T41 t427 x13_1).f3.f1))) (fun _ hk => hk.1.2)⟩, ⟨by (with_reducible repeat (first | refine blk_drewN ?_ _ | refine blk_drew ?_ | refine blk_alloc ?_ _)); refine blk_put (cs := #[.int .i64 ((rd_T41 t427 x13_1).f0), .int .i64 ((rd_T41 t427 x13_1).f1.f0), .int .i64 ((rd_T41 t427 x13_1).f1.f1), .int .i64 ((rd_T41 t427 x13_1).f2.f0), .int .i64 ((rd_T41 t427 x13_1).f2.f1), .int .i64 ((rd_T41 t427 x13_1).f3.f0), .int .i64 0]) ?_ 6 _ rfl; (with_reducible repeat (first | refine blk_drewN ?_ _ | refine blk_drew ?_ | refine blk_alloc ?_ _)); refine blk_put (cs := #[.int .i64 ((rd_T41 t427 x13_1).f0), .int .i64 ((rd_T41 t427 x13_1).f1.f0), .int .i64 ((rd_T41 t427 x13_1).f1.f1), .int .i64 ((rd_T41 t427 x13_1).f2.f0), .int .i64 ((rd_T41 t427 x13_1).f2.f1), .int .i64 0, .int .i64 0]) ?_ 5 _ rfl; (with_reducible repeat (first | refine blk_drewN ?_ _ | refine blk_drew ?_ | refine blk_alloc ?_ _)); refine blk_put (cs := #[.int .i64 ((rd_T41 t427 x13_1).f0), .int .i64 ((rd_T41 t427 x13_1).f1.f0), .int .i64 ((rd_T41 t427 x13_1).f1.f1), .int .i64 ((rd_T41 t427 x13_1).f2.f0), .int .i64 0, .int .i64 0, .int .i64 0]) ?_ 4 _ rfl; (with_reducible repeat (first | refine blk_drewN ?_ _ | refine blk_drew ?_ | refine blk_alloc ?_ _)); refine blk_put (cs := #[.int .i64 ((rd_T41 t427 x13_1).f0), .int .i64 ((rd_T41 t427 x13_1).f1.f0), .int .i64 ((rd_T41 t427 x13_1).f1.f1), .int .i64 0, .int .i64 0, .int .i64 0, .int .i64 0]) ?_ 3 _ rfl; (with_reducible repeat (first | refine blk_drewN ?_ _ | refine blk_drew ?_ | refine blk_alloc ?_ _)); refine blk_put (cs := #[.int .i64 ((rd_T41 t427 x13_1).f0), .int .i64 ((rd_T41 t427 x13_1).f1.f0), .int .i64 0, .int .i64 0, .int .i64 0, .int .i64 0, .int .i64 0]) ?_ 2 _ rfl; (with_reducible repeat (first | refine blk_drewN ?_ _ | refine blk_drew ?_ | refine blk_alloc ?_ _)); refine blk_put (cs := #[.int .i64 ((rd_T41 t427 x13_1).f0), .int .i64 0, .int .i64 0, .int .i64 0, .int .i64 0, .int .i64 0, .int .i64 0]) ?_ 1 _ rfl; (with_reducible repeat (first | refine blk_drewN ?_ _ | refine blk_drew ?_ | refine blk_alloc ?_ _)); refine blk_put (cs := #[.int .i64 0, .int .i64 0, .int .i64 0, .int .i64 0, .int .i64 0, .int .i64 0, .int .i64 0]) ?_ 0 _ rfl; (with_reducible repeat (first | refine blk_drewN ?_ _ | refine blk_drew ?_ | refine blk_alloc ?_ _)); exact BK431.out⟩, ⟨by repeat (first | (with_reducible first | exact HB.out | apply below_alloc | apply pw_below_drewN | apply below_drew1 | refine below_set ?_ GE431.out) | exact HB.out)⟩⟩
                    · rw [if_neg c19] at H
                      have c19b0 : (((rd_T41 t427 x13_1).f3.f0) == x12_1) = false := beq_eq_false_iff_ne.mpr c19
                      have c19b1 : (((rd_T41 t427 x13_1).f3.f0) != x12_1) = true := bne_iff_ne.mpr c19
                      have H' := Aside0.mk H
                      clear H
                      have hcz31_0 : w15.cell? ⟨gb431, 0, none⟩ = some (.int .i64 0) := (blk_cell BK431.out 0).trans rfl
                      have hcz31_1 : w15.cell? ⟨gb431, 1, none⟩ = some (.int .i64 0) := (blk_cell BK431.out 1).trans rfl
                      have hcz31_2 : w15.cell? ⟨gb431, 2, none⟩ = some (.int .i64 0) := (blk_cell BK431.out 2).trans rfl
                      have hcz31_3 : w15.cell? ⟨gb431, 3, none⟩ = some (.int .i64 0) := (blk_cell BK431.out 3).trans rfl
                      have hcz31_4 : w15.cell? ⟨gb431, 4, none⟩ = some (.int .i64 0) := (blk_cell BK431.out 4).trans rfl
                      have hcz31_5 : w15.cell? ⟨gb431, 5, none⟩ = some (.int .i64 0) := (blk_cell BK431.out 5).trans rfl
                      have hcz31_6 : w15.cell? ⟨gb431, 6, none⟩ = some (.int .i64 0) := (blk_cell BK431.out 6).trans rfl
                      have hfz31_0 := blk_frozen BK431.out 0
                      have hfz31_1 := blk_frozen BK431.out 1
                      have hfz31_2 := blk_frozen BK431.out 2
                      have hfz31_3 := blk_frozen BK431.out 3
                      have hfz31_4 := blk_frozen BK431.out 4
                      have hfz31_5 := blk_frozen BK431.out 5
                      have hfz31_6 := blk_frozen BK431.out 6
                      go_wp2
                      go_meet
                      case rel => exact ⟨_, (true), (by first | rfl | (simp; done) | (simp [*]; done)), H', ⟨by have := HK1.out; first | omega | exact Nat.le_refl _⟩, ⟨by (with_reducible repeat (first | apply Kd.R_alloc | apply Kd.R_drewN | apply Kd.R_drew)); exact Kd.R_mono (Kd.R_far (p := ⟨gb431, 6, none⟩) (Kd.R_far (p := ⟨gb431, 5, none⟩) (Kd.R_far (p := ⟨gb431, 4, none⟩) (Kd.R_far (p := ⟨gb431, 3, none⟩) (Kd.R_far (p := ⟨gb431, 2, none⟩) (Kd.R_far (p := ⟨gb431, 1, none⟩) (Kd.R_far (p := ⟨gb431, 0, none⟩) (Kd.R_mono HO_9.out (fun k_ hk => (⟨hk, hk.2⟩ : _ ∧ k_ ≠ gb431))) (fun _ hk => hk.2) (.int .i64 ((rd_T41 t427 x13_1).f0))) (fun _ hk => hk.2) (.int .i64 ((rd_T41 t427 x13_1).f1.f0))) (fun _ hk => hk.2) (.int .i64 ((rd_T41 t427 x13_1).f1.f1))) (fun _ hk => hk.2) (.int .i64 ((rd_T41 t427 x13_1).f2.f0))) (fun _ hk => hk.2) (.int .i64 ((rd_T41 t427 x13_1).f2.f1))) (fun _ hk => hk.2) (.int .i64 ((rd_T41 t427 x13_1).f3.f0))) (fun _ hk => hk.2) (.int .i64 ((rd_T41 t427 x13_1).f3.f1))) (fun _ hk => hk.1.2)⟩, ⟨by (with_reducible repeat (first | refine blk_drewN ?_ _ | refine blk_drew ?_ | refine blk_alloc ?_ _)); refine blk_put (cs := #[.int .i64 ((rd_T41 t427 x13_1).f0), .int .i64 ((rd_T41 t427 x13_1).f1.f0), .int .i64 ((rd_T41 t427 x13_1).f1.f1), .int .i64 ((rd_T41 t427 x13_1).f2.f0), .int .i64 ((rd_T41 t427 x13_1).f2.f1), .int .i64 ((rd_T41 t427 x13_1).f3.f0), .int .i64 0]) ?_ 6 _ rfl; (with_reducible repeat (first | refine blk_drewN ?_ _ | refine blk_drew ?_ | refine blk_alloc ?_ _)); refine blk_put (cs := #[.int .i64 ((rd_T41 t427 x13_1).f0), .int .i64 ((rd_T41 t427 x13_1).f1.f0), .int .i64 ((rd_T41 t427 x13_1).f1.f1), .int .i64 ((rd_T41 t427 x13_1).f2.f0), .int .i64 ((rd_T41 t427 x13_1).f2.f1), .int .i64 0, .int .i64 0]) ?_ 5 _ rfl; (with_reducible repeat (first | refine blk_drewN ?_ _ | refine blk_drew ?_ | refine blk_alloc ?_ _)); refine blk_put (cs := #[.int .i64 ((rd_T41 t427 x13_1).f0), .int .i64 ((rd_T41 t427 x13_1).f1.f0), .int .i64 ((rd_T41 t427 x13_1).f1.f1), .int .i64 ((rd_T41 t427 x13_1).f2.f0), .int .i64 0, .int .i64 0, .int .i64 0]) ?_ 4 _ rfl; (with_reducible repeat (first | refine blk_drewN ?_ _ | refine blk_drew ?_ | refine blk_alloc ?_ _)); refine blk_put (cs := #[.int .i64 ((rd_T41 t427 x13_1).f0), .int .i64 ((rd_T41 t427 x13_1).f1.f0), .int .i64 ((rd_T41 t427 x13_1).f1.f1), .int .i64 0, .int .i64 0, .int .i64 0, .int .i64 0]) ?_ 3 _ rfl; (with_reducible repeat (first | refine blk_drewN ?_ _ | refine blk_drew ?_ | refine blk_alloc ?_ _)); refine blk_put (cs := #[.int .i64 ((rd_T41 t427 x13_1).f0), .int .i64 ((rd_T41 t427 x13_1).f1.f0), .int .i64 0, .int .i64 0, .int .i64 0, .int .i64 0, .int .i64 0]) ?_ 2 _ rfl; (with_reducible repeat (first | refine blk_drewN ?_ _ | refine blk_drew ?_ | refine blk_alloc ?_ _)); refine blk_put (cs := #[.int .i64 ((rd_T41 t427 x13_1).f0), .int .i64 0, .int .i64 0, .int .i64 0, .int .i64 0, .int .i64 0, .int .i64 0]) ?_ 1 _ rfl; (with_reducible repeat (first | refine blk_drewN ?_ _ | refine blk_drew ?_ | refine blk_alloc ?_ _)); refine blk_put (cs := #[.int .i64 0, .int .i64 0, .int .i64 0, .int .i64 0, .int .i64 0, .int .i64 0, .int .i64 0]) ?_ 0 _ rfl; (with_reducible repeat (first | refine blk_drewN ?_ _ | refine blk_drew ?_ | refine blk_alloc ?_ _)); exact BK431.out⟩, ⟨by repeat (first | (with_reducible first | exact HB.out | apply below_alloc | apply pw_below_drewN | apply below_drew1 | refine below_set ?_ GE431.out) | exact HB.out)⟩⟩
                  · rw [if_neg c18] at H
                    have c18b0 : (((rd_T41 t427 x13_1).f2.f0) == x11_1) = false := beq_eq_false_iff_ne.mpr c18
                    have c18b1 : (((rd_T41 t427 x13_1).f2.f0) != x11_1) = true := bne_iff_ne.mpr c18
                    have H' := Aside0.mk H
                    clear H
                    have hcz32_0 : w15.cell? ⟨gb431, 0, none⟩ = some (.int .i64 0) := (blk_cell BK431.out 0).trans rfl
                    have hcz32_1 : w15.cell? ⟨gb431, 1, none⟩ = some (.int .i64 0) := (blk_cell BK431.out 1).trans rfl
                    have hcz32_2 : w15.cell? ⟨gb431, 2, none⟩ = some (.int .i64 0) := (blk_cell BK431.out 2).trans rfl
                    have hcz32_3 : w15.cell? ⟨gb431, 3, none⟩ = some (.int .i64 0) := (blk_cell BK431.out 3).trans rfl
                    have hcz32_4 : w15.cell? ⟨gb431, 4, none⟩ = some (.int .i64 0) := (blk_cell BK431.out 4).trans rfl
                    have hcz32_5 : w15.cell? ⟨gb431, 5, none⟩ = some (.int .i64 0) := (blk_cell BK431.out 5).trans rfl
                    have hcz32_6 : w15.cell? ⟨gb431, 6, none⟩ = some (.int .i64 0) := (blk_cell BK431.out 6).trans rfl
                    have hfz32_0 := blk_frozen BK431.out 0
                    have hfz32_1 := blk_frozen BK431.out 1
                    have hfz32_2 := blk_frozen BK431.out 2
                    have hfz32_3 := blk_frozen BK431.out 3
                    have hfz32_4 := blk_frozen BK431.out 4
                    have hfz32_5 := blk_frozen BK431.out 5
                    have hfz32_6 := blk_frozen BK431.out 6
                    go_wp2
                    go_meet
                    case rel => exact ⟨_, (true), (by first | rfl | (simp; done) | (simp [*]; done)), H', ⟨by have := HK1.out; first | omega | exact Nat.le_refl _⟩, ⟨by (with_reducible repeat (first | apply Kd.R_alloc | apply Kd.R_drewN | apply Kd.R_drew)); exact Kd.R_mono (Kd.R_far (p := ⟨gb431, 6, none⟩) (Kd.R_far (p := ⟨gb431, 5, none⟩) (Kd.R_far (p := ⟨gb431, 4, none⟩) (Kd.R_far (p := ⟨gb431, 3, none⟩) (Kd.R_far (p := ⟨gb431, 2, none⟩) (Kd.R_far (p := ⟨gb431, 1, none⟩) (Kd.R_far (p := ⟨gb431, 0, none⟩) (Kd.R_mono HO_9.out (fun k_ hk => (⟨hk, hk.2⟩ : _ ∧ k_ ≠ gb431))) (fun _ hk => hk.2) (.int .i64 ((rd_T41 t427 x13_1).f0))) (fun _ hk => hk.2) (.int .i64 ((rd_T41 t427 x13_1).f1.f0))) (fun _ hk => hk.2) (.int .i64 ((rd_T41 t427 x13_1).f1.f1))) (fun _ hk => hk.2) (.int .i64 ((rd_T41 t427 x13_1).f2.f0))) (fun _ hk => hk.2) (.int .i64 ((rd_T41 t427 x13_1).f2.f1))) (fun _ hk => hk.2) (.int .i64 ((rd_T41 t427 x13_1).f3.f0))) (fun _ hk => hk.2) (.int .i64 ((rd_T41 t427 x13_1).f3.f1))) (fun _ hk => hk.1.2)⟩, ⟨by (with_reducible repeat (first | refine blk_drewN ?_ _ | refine blk_drew ?_ | refine blk_alloc ?_ _)); refine blk_put (cs := #[.int .i64 ((rd_T41 t427 x13_1).f0), .int .i64 ((rd_T41 t427 x13_1).f1.f0), .int .i64 ((rd_T41 t427 x13_1).f1.f1), .int .i64 ((rd_T41 t427 x13_1).f2.f0), .int .i64 ((rd_T41 t427 x13_1).f2.f1), .int .i64 ((rd_T41 t427 x13_1).f3.f0), .int .i64 0]) ?_ 6 _ rfl; (with_reducible repeat (first | refine blk_drewN ?_ _ | refine blk_drew ?_ | refine blk_alloc ?_ _)); refine blk_put (cs := #[.int .i64 ((rd_T41 t427 x13_1).f0), .int .i64 ((rd_T41 t427 x13_1).f1.f0), .int .i64 ((rd_T41 t427 x13_1).f1.f1), .int .i64 ((rd_T41 t427 x13_1).f2.f0), .int .i64 ((rd_T41 t427 x13_1).f2.f1), .int .i64 0, .int .i64 0]) ?_ 5 _ rfl; (with_reducible repeat (first | refine blk_drewN ?_ _ | refine blk_drew ?_ | refine blk_alloc ?_ _)); refine blk_put (cs := #[.int .i64 ((rd_T41 t427 x13_1).f0), .int .i64 ((rd_T41 t427 x13_1).f1.f0), .int .i64 ((rd_T41 t427 x13_1).f1.f1), .int .i64 ((rd_T41 t427 x13_1).f2.f0), .int .i64 0, .int .i64 0, .int .i64 0]) ?_ 4 _ rfl; (with_reducible repeat (first | refine blk_drewN ?_ _ | refine blk_drew ?_ | refine blk_alloc ?_ _)); refine blk_put (cs := #[.int .i64 ((rd_T41 t427 x13_1).f0), .int .i64 ((rd_T41 t427 x13_1).f1.f0), .int .i64 ((rd_T41 t427 x13_1).f1.f1), .int .i64 0, .int .i64 0, .int .i64 0, .int .i64 0]) ?_ 3 _ rfl; (with_reducible repeat (first | refine blk_drewN ?_ _ | refine blk_drew ?_ | refine blk_alloc ?_ _)); refine blk_put (cs := #[.int .i64 ((rd_T41 t427 x13_1).f0), .int .i64 ((rd_T41 t427 x13_1).f1.f0), .int .i64 0, .int .i64 0, .int .i64 0, .int .i64 0, .int .i64 0]) ?_ 2 _ rfl; (with_reducible repeat (first | refine blk_drewN ?_ _ | refine blk_drew ?_ | refine blk_alloc ?_ _)); refine blk_put (cs := #[.int .i64 ((rd_T41 t427 x13_1).f0), .int .i64 0, .int .i64 0, .int .i64 0, .int .i64 0, .int .i64 0, .int .i64 0]) ?_ 1 _ rfl; (with_reducible repeat (first | refine blk_drewN ?_ _ | refine blk_drew ?_ | refine blk_alloc ?_ _)); refine blk_put (cs := #[.int .i64 0, .int .i64 0, .int .i64 0, .int .i64 0, .int .i64 0, .int .i64 0, .int .i64 0]) ?_ 0 _ rfl; (with_reducible repeat (first | refine blk_drewN ?_ _ | refine blk_drew ?_ | refine blk_alloc ?_ _)); exact BK431.out⟩, ⟨by repeat (first | (with_reducible first | exact HB.out | apply below_alloc | apply pw_below_drewN | apply below_drew1 | refine below_set ?_ GE431.out) | exact HB.out)⟩⟩
                · rw [if_neg c17] at H
                  have c17b0 : (((rd_T41 t427 x13_1).f1.f0) == x10_1) = false := beq_eq_false_iff_ne.mpr c17
                  have c17b1 : (((rd_T41 t427 x13_1).f1.f0) != x10_1) = true := bne_iff_ne.mpr c17
                  (first | rw [c17b0] | (simp only [i64_w, i32_w]; rw [c17b0]) | skip)
                  have H' := Aside0.mk H
                  clear H
                  have hcz33_0 : w15.cell? ⟨gb431, 0, none⟩ = some (.int .i64 0) := (blk_cell BK431.out 0).trans rfl
                  have hcz33_1 : w15.cell? ⟨gb431, 1, none⟩ = some (.int .i64 0) := (blk_cell BK431.out 1).trans rfl
                  have hcz33_2 : w15.cell? ⟨gb431, 2, none⟩ = some (.int .i64 0) := (blk_cell BK431.out 2).trans rfl
                  have hcz33_3 : w15.cell? ⟨gb431, 3, none⟩ = some (.int .i64 0) := (blk_cell BK431.out 3).trans rfl
                  have hcz33_4 : w15.cell? ⟨gb431, 4, none⟩ = some (.int .i64 0) := (blk_cell BK431.out 4).trans rfl
                  have hcz33_5 : w15.cell? ⟨gb431, 5, none⟩ = some (.int .i64 0) := (blk_cell BK431.out 5).trans rfl
                  have hcz33_6 : w15.cell? ⟨gb431, 6, none⟩ = some (.int .i64 0) := (blk_cell BK431.out 6).trans rfl
                  have hfz33_0 := blk_frozen BK431.out 0
                  have hfz33_1 := blk_frozen BK431.out 1
                  have hfz33_2 := blk_frozen BK431.out 2
                  have hfz33_3 := blk_frozen BK431.out 3
                  have hfz33_4 := blk_frozen BK431.out 4
                  have hfz33_5 := blk_frozen BK431.out 5
                  have hfz33_6 := blk_frozen BK431.out 6
                  go_wp2
                  go_meet
                  case rel => exact ⟨_, (true), (by first | rfl | (simp; done) | (simp [*]; done)), H', ⟨by have := HK1.out; first | omega | exact Nat.le_refl _⟩, ⟨by (with_reducible repeat (first | apply Kd.R_alloc | apply Kd.R_drewN | apply Kd.R_drew)); exact Kd.R_mono (Kd.R_far (p := ⟨gb431, 6, none⟩) (Kd.R_far (p := ⟨gb431, 5, none⟩) (Kd.R_far (p := ⟨gb431, 4, none⟩) (Kd.R_far (p := ⟨gb431, 3, none⟩) (Kd.R_far (p := ⟨gb431, 2, none⟩) (Kd.R_far (p := ⟨gb431, 1, none⟩) (Kd.R_far (p := ⟨gb431, 0, none⟩) (Kd.R_mono HO_9.out (fun k_ hk => (⟨hk, hk.2⟩ : _ ∧ k_ ≠ gb431))) (fun _ hk => hk.2) (.int .i64 ((rd_T41 t427 x13_1).f0))) (fun _ hk => hk.2) (.int .i64 ((rd_T41 t427 x13_1).f1.f0))) (fun _ hk => hk.2) (.int .i64 ((rd_T41 t427 x13_1).f1.f1))) (fun _ hk => hk.2) (.int .i64 ((rd_T41 t427 x13_1).f2.f0))) (fun _ hk => hk.2) (.int .i64 ((rd_T41 t427 x13_1).f2.f1))) (fun _ hk => hk.2) (.int .i64 ((rd_T41 t427 x13_1).f3.f0))) (fun _ hk => hk.2) (.int .i64 ((rd_T41 t427 x13_1).f3.f1))) (fun _ hk => hk.1.2)⟩, ⟨by (with_reducible repeat (first | refine blk_drewN ?_ _ | refine blk_drew ?_ | refine blk_alloc ?_ _)); refine blk_put (cs := #[.int .i64 ((rd_T41 t427 x13_1).f0), .int .i64 ((rd_T41 t427 x13_1).f1.f0), .int .i64 ((rd_T41 t427 x13_1).f1.f1), .int .i64 ((rd_T41 t427 x13_1).f2.f0), .int .i64 ((rd_T41 t427 x13_1).f2.f1), .int .i64 ((rd_T41 t427 x13_1).f3.f0), .int .i64 0]) ?_ 6 _ rfl; (with_reducible repeat (first | refine blk_drewN ?_ _ | refine blk_drew ?_ | refine blk_alloc ?_ _)); refine blk_put (cs := #[.int .i64 ((rd_T41 t427 x13_1).f0), .int .i64 ((rd_T41 t427 x13_1).f1.f0), .int .i64 ((rd_T41 t427 x13_1).f1.f1), .int .i64 ((rd_T41 t427 x13_1).f2.f0), .int .i64 ((rd_T41 t427 x13_1).f2.f1), .int .i64 0, .int .i64 0]) ?_ 5 _ rfl; (with_reducible repeat (first | refine blk_drewN ?_ _ | refine blk_drew ?_ | refine blk_alloc ?_ _)); refine blk_put (cs := #[.int .i64 ((rd_T41 t427 x13_1).f0), .int .i64 ((rd_T41 t427 x13_1).f1.f0), .int .i64 ((rd_T41 t427 x13_1).f1.f1), .int .i64 ((rd_T41 t427 x13_1).f2.f0), .int .i64 0, .int .i64 0, .int .i64 0]) ?_ 4 _ rfl; (with_reducible repeat (first | refine blk_drewN ?_ _ | refine blk_drew ?_ | refine blk_alloc ?_ _)); refine blk_put (cs := #[.int .i64 ((rd_T41 t427 x13_1).f0), .int .i64 ((rd_T41 t427 x13_1).f1.f0), .int .i64 ((rd_T41 t427 x13_1).f1.f1), .int .i64 0, .int .i64 0, .int .i64 0, .int .i64 0]) ?_ 3 _ rfl; (with_reducible repeat (first | refine blk_drewN ?_ _ | refine blk_drew ?_ | refine blk_alloc ?_ _)); refine blk_put (cs := #[.int .i64 ((rd_T41 t427 x13_1).f0), .int .i64 ((rd_T41 t427 x13_1).f1.f0), .int .i64 0, .int .i64 0, .int .i64 0, .int .i64 0, .int .i64 0]) ?_ 2 _ rfl; (with_reducible repeat (first | refine blk_drewN ?_ _ | refine blk_drew ?_ | refine blk_alloc ?_ _)); refine blk_put (cs := #[.int .i64 ((rd_T41 t427 x13_1).f0), .int .i64 0, .int .i64 0, .int .i64 0, .int .i64 0, .int .i64 0, .int .i64 0]) ?_ 1 _ rfl; (with_reducible repeat (first | refine blk_drewN ?_ _ | refine blk_drew ?_ | refine blk_alloc ?_ _)); refine blk_put (cs := #[.int .i64 0, .int .i64 0, .int .i64 0, .int .i64 0, .int .i64 0, .int .i64 0, .int .i64 0]) ?_ 0 _ rfl; (with_reducible repeat (first | refine blk_drewN ?_ _ | refine blk_drew ?_ | refine blk_alloc ?_ _)); exact BK431.out⟩, ⟨by repeat (first | (with_reducible first | exact HB.out | apply below_alloc | apply pw_below_drewN | apply below_drew1 | refine below_set ?_ GE431.out) | exact HB.out)⟩⟩
              case rest =>
                clear HC13
                try clear c1
                try clear c2
                try clear p2
                try clear p4
                try clear q4
                try clear hx4
                try clear c5
                try clear c7
                try clear c8
                try clear c9
                try clear c10
                try clear c11
                try clear c11b0
                try clear c12
                try clear c12b0
                try clear c17
                try clear c17b0
                try clear c17b1
                try clear c18
                try clear c18b0
                try clear c18b1
                try clear c19
                try clear c19b0
                try clear c19b1
                try clear c20
                try clear c20b0
                try clear c22
                try clear c22b0
                try clear c24
                try clear c24b0
                try clear c26
                try clear c26b0
                try clear c28
                try clear c28b0
                try clear hcz16_0
                try clear hcz16_1
                try clear hcz16_2
                try clear hcz16_3
                try clear hcz16_4
                try clear hcz16_5
                try clear hcz16_6
                try clear hcz21_0
                try clear hcz21_1
                try clear hcz21_2
                try clear hcz21_3
                try clear hcz21_4
                try clear hcz21_5
                try clear hcz21_6
                try clear hcz23_0
                try clear hcz23_1
                try clear hcz23_2
                try clear hcz23_3
                try clear hcz23_4
                try clear hcz23_5
                try clear hcz23_6
                try clear hcz25_0
                try clear hcz25_1
                try clear hcz25_2
                try clear hcz25_3
                try clear hcz25_4
                try clear hcz25_5
                try clear hcz25_6
                try clear hcz27_0
                try clear hcz27_1
                try clear hcz27_2
                try clear hcz27_3
                try clear hcz27_4
                try clear hcz27_5
                try clear hcz27_6
                try clear hcz29_0
                try clear hcz29_1
                try clear hcz29_2
                try clear hcz29_3
                try clear hcz29_4
                try clear hcz29_5
                try clear hcz29_6
                try clear hcz30_0
                try clear hcz30_1
                try clear hcz30_2
                try clear hcz30_3
                try clear hcz30_4
                try clear hcz30_5
                try clear hcz30_6
                try clear hcz31_0
                try clear hcz31_1
                try clear hcz31_2
                try clear hcz31_3
                try clear hcz31_4
                try clear hcz31_5
                try clear hcz31_6
                try clear hcz32_0
                try clear hcz32_1
                try clear hcz32_2
                try clear hcz32_3
                try clear hcz32_4
                try clear hcz32_5
                try clear hcz32_6
                try clear hcz33_0
                try clear hcz33_1
                try clear hcz33_2
                try clear hcz33_3
                try clear hcz33_4
                try clear hcz33_5
                try clear hcz33_6
                try clear hfz16_0
                try clear hfz16_1
                try clear hfz16_2
                try clear hfz16_3
                try clear hfz16_4
                try clear hfz16_5
                try clear hfz16_6
                try clear hfz21_0
                try clear hfz21_1
                try clear hfz21_2
                try clear hfz21_3
                try clear hfz21_4
                try clear hfz21_5
                try clear hfz21_6
                try clear hfz23_0
                try clear hfz23_1
                try clear hfz23_2
                try clear hfz23_3
                try clear hfz23_4
                try clear hfz23_5
                try clear hfz23_6
                try clear hfz25_0
                try clear hfz25_1
                try clear hfz25_2
                try clear hfz25_3
                try clear hfz25_4
                try clear hfz25_5
                try clear hfz25_6
                try clear hfz27_0
                try clear hfz27_1
                try clear hfz27_2
                try clear hfz27_3
                try clear hfz27_4
                try clear hfz27_5
                try clear hfz27_6
                try clear hfz29_0
                try clear hfz29_1
                try clear hfz29_2
                try clear hfz29_3
                try clear hfz29_4
                try clear hfz29_5
                try clear hfz29_6
                try clear hfz30_0
                try clear hfz30_1
                try clear hfz30_2
                try clear hfz30_3
                try clear hfz30_4
                try clear hfz30_5
                try clear hfz30_6
                try clear hfz31_0
                try clear hfz31_1
                try clear hfz31_2
                try clear hfz31_3
                try clear hfz31_4
                try clear hfz31_5
                try clear hfz31_6
                try clear hfz32_0
                try clear hfz32_1
                try clear hfz32_2
                try clear hfz32_3
                try clear hfz32_4
                try clear hfz32_5
                try clear hfz32_6
                try clear hfz33_0
                try clear hfz33_1
                try clear hfz33_2
                try clear hfz33_3
                try clear hfz33_4
                try clear hfz33_5
                try clear hfz33_6
                try clear hx430_0
                try clear hx430_1
                try clear hx430_2
                try clear hx430_3
                try clear hx430_4
                try clear hx430_5
                try clear hx430_6
                try clear p2
                try clear p430
                try clear q430
                obtain ⟨kq, x108_12, rfl, HA, HJ12, HO_9, BK431, HB⟩ := hcut
                cases kq with
                | zero => exact absurd HA.out (by simp [concordatlaw07_Diff3All.j1])
                | succ kj12 =>
                  have H := HA.out
                  clear HA
                  simp only [concordatlaw07_Diff3All.j1] at H
                  by_cases c34 : x108_12 = true
                  · subst c34
                    have H1 : (none) = some r := by rw [if_pos rfl] at H; exact H
                    clear H
                    have H := H1
                    clear H1
                    exact absurd H (by simp)
                  · replace c34 := Bool.eq_false_iff.mpr c34
                    subst c34
                    have H1 : (if 0 ≤ x10_1 then (if x10_1 ≤ ((rd_T41 t427 x13_1).f1.f1) then (if ((rd_T41 t427 x13_1).f1.f1) ≤ (l0.length : Int) then (if 0 ≤ x11_1 then (if x11_1 ≤ ((rd_T41 t427 x13_1).f2.f1) then (if ((rd_T41 t427 x13_1).f2.f1) ≤ (l1.length : Int) then (if 0 ≤ x12_1 then (if x12_1 ≤ ((rd_T41 t427 x13_1).f3.f1) then (if ((rd_T41 t427 x13_1).f3.f1) ≤ (l2.length : Int) then (if (wrap64 ((wrap64 ((((l0.take (((rd_T41 t427 x13_1).f1.f1) : Int).toNat).drop (x10_1 : Int).toNat).length : Int) + (((l1.take (((rd_T41 t427 x13_1).f2.f1) : Int).toNat).drop (x11_1 : Int).toNat).length : Int))) + (((l2.take (((rd_T41 t427 x13_1).f3.f1) : Int).toNat).drop (x12_1 : Int).toNat).length : Int))) = 0 then (none) else ((concordatref05_Same.f kj12 ((l0.take (((rd_T41 t427 x13_1).f1.f1) : Int).toNat).drop (x10_1 : Int).toNat) ((l1.take (((rd_T41 t427 x13_1).f2.f1) : Int).toNat).drop (x11_1 : Int).toNat)).bind fun t435 => ((concordatref05_Same.f kj12 ((l0.take (((rd_T41 t427 x13_1).f1.f1) : Int).toNat).drop (x10_1 : Int).toNat) ((l2.take (((rd_T41 t427 x13_1).f3.f1) : Int).toNat).drop (x12_1 : Int).toNat)).bind fun t436 => ((concordatref05_Same.f kj12 ((l1.take (((rd_T41 t427 x13_1).f2.f1) : Int).toNat).drop (x11_1 : Int).toNat) ((l2.take (((rd_T41 t427 x13_1).f3.f1) : Int).toNat).drop (x12_1 : Int).toNat)).bind fun t437 => (if t435 = true then (concordatlaw07_Diff3All.j2 kj12 l0 l1 l2 t427 x13_1 (!t435) (!t436) t437 4 t436 ((rd_T41 t427 x13_1).f0) ((rd_T41 t427 x13_1).f1.f0) ((rd_T41 t427 x13_1).f1.f1) ((rd_T41 t427 x13_1).f2.f0) ((rd_T41 t427 x13_1).f2.f1) ((rd_T41 t427 x13_1).f3.f0) ((rd_T41 t427 x13_1).f3.f1)) else (concordatlaw07_Diff3All.j2 kj12 l0 l1 l2 t427 x13_1 (!t435) (!t436) t437 4 false ((rd_T41 t427 x13_1).f0) ((rd_T41 t427 x13_1).f1.f0) ((rd_T41 t427 x13_1).f1.f1) ((rd_T41 t427 x13_1).f2.f0) ((rd_T41 t427 x13_1).f2.f1) ((rd_T41 t427 x13_1).f3.f0) ((rd_T41 t427 x13_1).f3.f1))))))) else (none)) else (none)) else (none)) else (none)) else (none)) else (none)) else (none)) else (none)) else (none)) = some r := by rw [if_neg (show ¬ (false = true) by decide)] at H; exact H
                    clear H
                    have H := H1
                    clear H1
                    by_cases c35 : 0 ≤ x10_1
                    · rw [if_pos c35] at H
                      have c35b0 := eq_true c35
                      have c35b1 : decide (0 ≤ x10_1) = true := decide_eq_true c35
                      clear c35
                      by_cases c36 : x10_1 ≤ ((rd_T41 t427 x13_1).f1.f1)
                      · rw [if_pos c36] at H
                        have c36b0 := eq_true c36
                        have c36b1 : decide (x10_1 ≤ ((rd_T41 t427 x13_1).f1.f1)) = true := decide_eq_true c36
                        clear c36
                        by_cases c37 : ((rd_T41 t427 x13_1).f1.f1) ≤ (l0.length : Int)
                        · rw [if_pos c37] at H
                          have c37b0 := eq_true c37
                          have c37b1 : decide (((rd_T41 t427 x13_1).f1.f1) ≤ (l0.length : Int)) = true := decide_eq_true c37
                          clear c37
                          by_cases c38 : 0 ≤ x11_1
                          · rw [if_pos c38] at H
                            have c38b0 := eq_true c38
                            have c38b1 : decide (0 ≤ x11_1) = true := decide_eq_true c38
                            clear c38
                            by_cases c39 : x11_1 ≤ ((rd_T41 t427 x13_1).f2.f1)
                            · rw [if_pos c39] at H
                              have c39b0 := eq_true c39
                              have c39b1 : decide (x11_1 ≤ ((rd_T41 t427 x13_1).f2.f1)) = true := decide_eq_true c39
                              clear c39
                              by_cases c40 : ((rd_T41 t427 x13_1).f2.f1) ≤ (l1.length : Int)
                              · rw [if_pos c40] at H
                                have c40b0 := eq_true c40
                                have c40b1 : decide (((rd_T41 t427 x13_1).f2.f1) ≤ (l1.length : Int)) = true := decide_eq_true c40
                                clear c40
                                by_cases c41 : 0 ≤ x12_1
                                · rw [if_pos c41] at H
                                  have c41b0 := eq_true c41
                                  have c41b1 : decide (0 ≤ x12_1) = true := decide_eq_true c41
                                  clear c41
                                  by_cases c42 : x12_1 ≤ ((rd_T41 t427 x13_1).f3.f1)
                                  · rw [if_pos c42] at H
                                    have c42b0 := eq_true c42
                                    have c42b1 : decide (x12_1 ≤ ((rd_T41 t427 x13_1).f3.f1)) = true := decide_eq_true c42
                                    clear c42
                                    by_cases c43 : ((rd_T41 t427 x13_1).f3.f1) ≤ (l2.length : Int)
                                    · rw [if_pos c43] at H
                                      have c43b0 := eq_true c43
                                      have c43b1 : decide (((rd_T41 t427 x13_1).f3.f1) ≤ (l2.length : Int)) = true := decide_eq_true c43
                                      clear c43
                                      by_cases c44 : (wrap64 ((wrap64 ((((l0.take (((rd_T41 t427 x13_1).f1.f1) : Int).toNat).drop (x10_1 : Int).toNat).length : Int) + (((l1.take (((rd_T41 t427 x13_1).f2.f1) : Int).toNat).drop (x11_1 : Int).toNat).length : Int))) + (((l2.take (((rd_T41 t427 x13_1).f3.f1) : Int).toNat).drop (x12_1 : Int).toNat).length : Int))) = 0
                                      · rw [if_pos c44] at H
                                        exact absurd H (by simp)
                                      · rw [if_neg c44] at H
                                        have c44b0 : ((wrap64 ((wrap64 ((((l0.take (((rd_T41 t427 x13_1).f1.f1) : Int).toNat).drop (x10_1 : Int).toNat).length : Int) + (((l1.take (((rd_T41 t427 x13_1).f2.f1) : Int).toNat).drop (x11_1 : Int).toNat).length : Int))) + (((l2.take (((rd_T41 t427 x13_1).f3.f1) : Int).toNat).drop (x12_1 : Int).toNat).length : Int))) == 0) = false := beq_eq_false_iff_ne.mpr c44
                                        have c44b2 : ((wrap64 ((wrap64 (((((rd_T41 t427 x13_1).f1.f1).toNat - x10_1.toNat : Nat) : Int) + ((((rd_T41 t427 x13_1).f2.f1).toNat - x11_1.toNat : Nat) : Int))) + ((((rd_T41 t427 x13_1).f3.f1).toNat - x12_1.toNat : Nat) : Int))) == 0) = false := by have hq_ := c44b0; rw [(show ((l0.take (((rd_T41 t427 x13_1).f1.f1) : Int).toNat).drop (x10_1 : Int).toNat).length = ((rd_T41 t427 x13_1).f1.f1).toNat - x10_1.toNat from (by rw [List.length_drop, List.length_take]; have h_ : (((rd_T41 t427 x13_1).f1.f1) : Int) ≤ (l0.length : Int) := of_decide_eq_true (by first | (with_reducible assumption) | assumption); omega)), (show ((l1.take (((rd_T41 t427 x13_1).f2.f1) : Int).toNat).drop (x11_1 : Int).toNat).length = ((rd_T41 t427 x13_1).f2.f1).toNat - x11_1.toNat from (by rw [List.length_drop, List.length_take]; have h_ : (((rd_T41 t427 x13_1).f2.f1) : Int) ≤ (l1.length : Int) := of_decide_eq_true (by first | (with_reducible assumption) | assumption); omega)), (show ((l2.take (((rd_T41 t427 x13_1).f3.f1) : Int).toNat).drop (x12_1 : Int).toNat).length = ((rd_T41 t427 x13_1).f3.f1).toNat - x12_1.toNat from (by rw [List.length_drop, List.length_take]; have h_ : (((rd_T41 t427 x13_1).f3.f1) : Int) ≤ (l2.length : Int) := of_decide_eq_true (by first | (with_reducible assumption) | assumption); omega))] at hq_; exact hq_
                                        have c44b1 : ((wrap64 ((wrap64 ((((l0.take (((rd_T41 t427 x13_1).f1.f1) : Int).toNat).drop (x10_1 : Int).toNat).length : Int) + (((l1.take (((rd_T41 t427 x13_1).f2.f1) : Int).toNat).drop (x11_1 : Int).toNat).length : Int))) + (((l2.take (((rd_T41 t427 x13_1).f3.f1) : Int).toNat).drop (x12_1 : Int).toNat).length : Int))) != 0) = true := bne_iff_ne.mpr c44
                                        replace H := Option.bind_eq_some_iff.mp H
                                        obtain ⟨t435, A450, H⟩ := H
                                        replace H : ((concordatref05_Same.f kj12 ((l0.take (((rd_T41 t427 x13_1).f1.f1) : Int).toNat).drop (x10_1 : Int).toNat) ((l2.take (((rd_T41 t427 x13_1).f3.f1) : Int).toNat).drop (x12_1 : Int).toNat)).bind fun t436 => ((concordatref05_Same.f kj12 ((l1.take (((rd_T41 t427 x13_1).f2.f1) : Int).toNat).drop (x11_1 : Int).toNat) ((l2.take (((rd_T41 t427 x13_1).f3.f1) : Int).toNat).drop (x12_1 : Int).toNat)).bind fun t437 => (if t435 = true then (concordatlaw07_Diff3All.j2 kj12 l0 l1 l2 t427 x13_1 (!t435) (!t436) t437 4 t436 ((rd_T41 t427 x13_1).f0) ((rd_T41 t427 x13_1).f1.f0) ((rd_T41 t427 x13_1).f1.f1) ((rd_T41 t427 x13_1).f2.f0) ((rd_T41 t427 x13_1).f2.f1) ((rd_T41 t427 x13_1).f3.f0) ((rd_T41 t427 x13_1).f3.f1)) else (concordatlaw07_Diff3All.j2 kj12 l0 l1 l2 t427 x13_1 (!t435) (!t436) t437 4 false ((rd_T41 t427 x13_1).f0) ((rd_T41 t427 x13_1).f1.f0) ((rd_T41 t427 x13_1).f1.f1) ((rd_T41 t427 x13_1).f2.f0) ((rd_T41 t427 x13_1).f2.f1) ((rd_T41 t427 x13_1).f3.f0) ((rd_T41 t427 x13_1).f3.f1))))) = some r := H
                                        have A45 := Aside0.mk A450
                                        clear A450
                                        replace H := Option.bind_eq_some_iff.mp H
                                        obtain ⟨t436, A460, H⟩ := H
                                        replace H : ((concordatref05_Same.f kj12 ((l1.take (((rd_T41 t427 x13_1).f2.f1) : Int).toNat).drop (x11_1 : Int).toNat) ((l2.take (((rd_T41 t427 x13_1).f3.f1) : Int).toNat).drop (x12_1 : Int).toNat)).bind fun t437 => (if t435 = true then (concordatlaw07_Diff3All.j2 kj12 l0 l1 l2 t427 x13_1 (!t435) (!t436) t437 4 t436 ((rd_T41 t427 x13_1).f0) ((rd_T41 t427 x13_1).f1.f0) ((rd_T41 t427 x13_1).f1.f1) ((rd_T41 t427 x13_1).f2.f0) ((rd_T41 t427 x13_1).f2.f1) ((rd_T41 t427 x13_1).f3.f0) ((rd_T41 t427 x13_1).f3.f1)) else (concordatlaw07_Diff3All.j2 kj12 l0 l1 l2 t427 x13_1 (!t435) (!t436) t437 4 false ((rd_T41 t427 x13_1).f0) ((rd_T41 t427 x13_1).f1.f0) ((rd_T41 t427 x13_1).f1.f1) ((rd_T41 t427 x13_1).f2.f0) ((rd_T41 t427 x13_1).f2.f1) ((rd_T41 t427 x13_1).f3.f0) ((rd_T41 t427 x13_1).f3.f1)))) = some r := H
                                        have A46 := Aside0.mk A460
                                        clear A460
                                        replace H := Option.bind_eq_some_iff.mp H
                                        obtain ⟨t437, A470, H⟩ := H
                                        replace H : (if t435 = true then (concordatlaw07_Diff3All.j2 kj12 l0 l1 l2 t427 x13_1 (!t435) (!t436) t437 4 t436 ((rd_T41 t427 x13_1).f0) ((rd_T41 t427 x13_1).f1.f0) ((rd_T41 t427 x13_1).f1.f1) ((rd_T41 t427 x13_1).f2.f0) ((rd_T41 t427 x13_1).f2.f1) ((rd_T41 t427 x13_1).f3.f0) ((rd_T41 t427 x13_1).f3.f1)) else (concordatlaw07_Diff3All.j2 kj12 l0 l1 l2 t427 x13_1 (!t435) (!t436) t437 4 false ((rd_T41 t427 x13_1).f0) ((rd_T41 t427 x13_1).f1.f0) ((rd_T41 t427 x13_1).f1.f1) ((rd_T41 t427 x13_1).f2.f0) ((rd_T41 t427 x13_1).f2.f1) ((rd_T41 t427 x13_1).f3.f0) ((rd_T41 t427 x13_1).f3.f1))) = some r := H
                                        have A47 := Aside0.mk A470
                                        clear A470
                                        have HC48 := Aside0.mk H
                                        clear H
                                        have hcz49_0 : wc.cell? ⟨gb431, 0, none⟩ = some (.int .i64 ((rd_T41 t427 x13_1).f0)) := (blk_cell BK431.out 0).trans rfl
                                        have hcz49_1 : wc.cell? ⟨gb431, 1, none⟩ = some (.int .i64 ((rd_T41 t427 x13_1).f1.f0)) := (blk_cell BK431.out 1).trans rfl
                                        have hcz49_2 : wc.cell? ⟨gb431, 2, none⟩ = some (.int .i64 ((rd_T41 t427 x13_1).f1.f1)) := (blk_cell BK431.out 2).trans rfl
                                        have hcz49_3 : wc.cell? ⟨gb431, 3, none⟩ = some (.int .i64 ((rd_T41 t427 x13_1).f2.f0)) := (blk_cell BK431.out 3).trans rfl
                                        have hcz49_4 : wc.cell? ⟨gb431, 4, none⟩ = some (.int .i64 ((rd_T41 t427 x13_1).f2.f1)) := (blk_cell BK431.out 4).trans rfl
                                        have hcz49_5 : wc.cell? ⟨gb431, 5, none⟩ = some (.int .i64 ((rd_T41 t427 x13_1).f3.f0)) := (blk_cell BK431.out 5).trans rfl
                                        have hcz49_6 : wc.cell? ⟨gb431, 6, none⟩ = some (.int .i64 ((rd_T41 t427 x13_1).f3.f1)) := (blk_cell BK431.out 6).trans rfl
                                        have hfz49_0 := blk_frozen BK431.out 0
                                        have hfz49_1 := blk_frozen BK431.out 1
                                        have hfz49_2 := blk_frozen BK431.out 2
                                        have hfz49_3 := blk_frozen BK431.out 3
                                        have hfz49_4 := blk_frozen BK431.out 4
                                        have hfz49_5 := blk_frozen BK431.out 5
                                        have hfz49_6 := blk_frozen BK431.out 6
                                        obtain ⟨i050, hi050, _, hsz50, _⟩ := info_parts info3
                                        obtain ⟨A50, hcut50, hA50, hC50⟩ := print_mid_of (P := Try.prog) (Value.int .i64) 0 22 3 .i64 .i64 Try.underlying22 hi050 hsz50 A0 c0 l0 x10_1 ((rd_T41 t427 x13_1).f1.f1) (of_decide_eq_true (by first | (with_reducible assumption) | assumption)) (by first | omega | exact of_decide_eq_true (by first | (with_reducible assumption) | assumption)) (of_decide_eq_true (by first | (with_reducible assumption) | assumption)) HC0.out
                                        have HR432 := Aside0.mk (Kd.C_of_reads (h1 := fun _ => rfl) (hA50 _ (Kd.reads_of_C HR0.out)))
                                        have HC432 := Aside0.mk hC50
                                        clear hA50 hC50 hi050 hsz50
                                        obtain ⟨i051, hi051, _, hsz51, _⟩ := info_parts info3
                                        obtain ⟨A51, hcut51, hA51, hC51⟩ := print_mid_of (P := Try.prog) (Value.int .i64) 0 22 3 .i64 .i64 Try.underlying22 hi051 hsz51 A1 c1 l1 x11_1 ((rd_T41 t427 x13_1).f2.f1) (of_decide_eq_true (by first | (with_reducible assumption) | assumption)) (by first | omega | exact of_decide_eq_true (by first | (with_reducible assumption) | assumption)) (of_decide_eq_true (by first | (with_reducible assumption) | assumption)) HC1.out
                                        have HR433 := Aside0.mk (Kd.C_of_reads (h1 := fun _ => rfl) (hA51 _ (Kd.reads_of_C HR1.out)))
                                        have HC433 := Aside0.mk hC51
                                        clear hA51 hC51 hi051 hsz51
                                        obtain ⟨i052, hi052, _, hsz52, _⟩ := info_parts info3
                                        obtain ⟨A52, hcut52, hA52, hC52⟩ := print_mid_of (P := Try.prog) (Value.int .i64) 0 22 3 .i64 .i64 Try.underlying22 hi052 hsz52 A2 c2 l2 x12_1 ((rd_T41 t427 x13_1).f3.f1) (of_decide_eq_true (by first | (with_reducible assumption) | assumption)) (by first | omega | exact of_decide_eq_true (by first | (with_reducible assumption) | assumption)) (of_decide_eq_true (by first | (with_reducible assumption) | assumption)) HC2.out
                                        have HR434 := Aside0.mk (Kd.C_of_reads (h1 := fun _ => rfl) (hA52 _ (Kd.reads_of_C HR2.out)))
                                        have HC434 := Aside0.mk hC52
                                        clear hA52 hC52 hi052 hsz52
                                        go_upto_region 26 with (first | ((with_reducible refine gate_callee (f := 17) rfl ?_); refine goesL_ (some 138) rfl rfl Try.func17 (by kernel_rfl) rfl #[.slice A50 ((l0.take (((rd_T41 t427 x13_1).f1.f1) : Int).toNat).drop (x10_1 : Int).toNat).length (c0 - x10_1.toNat), .slice A51 ((l1.take (((rd_T41 t427 x13_1).f2.f1) : Int).toNat).drop (x11_1 : Int).toNat).length (c1 - x11_1.toNat)] rfl (by (try simp only [List.map_toArray, List.map_cons, List.map_nil]); first | done | (rw [show ((l0.take (((rd_T41 t427 x13_1).f1.f1) : Int).toNat).drop (x10_1 : Int).toNat).length = (((rd_T41 t427 x13_1).f1.f1).toNat - x10_1.toNat) from (by rw [List.length_drop, List.length_take]; have h_ : (((rd_T41 t427 x13_1).f1.f1) : Int) ≤ (l0.length : Int) := of_decide_eq_true (by first | (with_reducible assumption) | assumption); omega)] <;> rfl) | (rw [show ((l1.take (((rd_T41 t427 x13_1).f2.f1) : Int).toNat).drop (x11_1 : Int).toNat).length = (((rd_T41 t427 x13_1).f2.f1).toNat - x11_1.toNat) from (by rw [List.length_drop, List.length_take]; have h_ : (((rd_T41 t427 x13_1).f2.f1) : Int) ≤ (l1.length : Int) := of_decide_eq_true (by first | (with_reducible assumption) | assumption); omega)] <;> rfl) | ((try rw [show ((l0.take (((rd_T41 t427 x13_1).f1.f1) : Int).toNat).drop (x10_1 : Int).toNat).length = (((rd_T41 t427 x13_1).f1.f1).toNat - x10_1.toNat) from (by rw [List.length_drop, List.length_take]; have h_ : (((rd_T41 t427 x13_1).f1.f1) : Int) ≤ (l0.length : Int) := of_decide_eq_true (by first | (with_reducible assumption) | assumption); omega)]); (try rw [show ((l1.take (((rd_T41 t427 x13_1).f2.f1) : Int).toNat).drop (x11_1 : Int).toNat).length = (((rd_T41 t427 x13_1).f2.f1).toNat - x11_1.toNat) from (by rw [List.length_drop, List.length_take]; have h_ : (((rd_T41 t427 x13_1).f2.f1) : Int) ≤ (l1.length : Int) := of_decide_eq_true (by first | (with_reducible assumption) | assumption); omega)]); rfl) | rfl | (simp only [List.length_drop, List.length_take]; rfl)) ?_; (with_reducible refine (concordatref05_Same.calls kj12 _ _ ((l0.take (((rd_T41 t427 x13_1).f1.f1) : Int).toNat).drop (x10_1 : Int).toNat) _ _ ((l1.take (((rd_T41 t427 x13_1).f2.f1) : Int).toNat).drop (x11_1 : Int).toNat) t435 _ ?side1 ?side2 ?side3 ?side4 A45.out).mono ?_); (case side1 => repeat (first | exact (Kd.C_below HR432.out HB.out) | (with_reducible refine Kd.C_alloc ?_ _) | (with_reducible refine Kd.C_drewN ?_ _) | (with_reducible refine Kd.C_drew ?_))); (case side2 => exact HC432.out); (case side3 => repeat (first | exact (Kd.C_below HR433.out HB.out) | (with_reducible refine Kd.C_alloc ?_ _) | (with_reducible refine Kd.C_drewN ?_ _) | (with_reducible refine Kd.C_drew ?_))); (case side4 => exact HC433.out); rintro e w' ⟨rfl, ⟨nd, rfl⟩⟩; refine ⟨_, rfl, ?_⟩) | ((with_reducible refine gate_callee (f := 17) rfl ?_); refine goesL_ (some 142) rfl rfl Try.func17 (by kernel_rfl) rfl #[.slice A50 ((l0.take (((rd_T41 t427 x13_1).f1.f1) : Int).toNat).drop (x10_1 : Int).toNat).length (c0 - x10_1.toNat), .slice A52 ((l2.take (((rd_T41 t427 x13_1).f3.f1) : Int).toNat).drop (x12_1 : Int).toNat).length (c2 - x12_1.toNat)] rfl (by (try simp only [List.map_toArray, List.map_cons, List.map_nil]); first | done | (rw [show ((l0.take (((rd_T41 t427 x13_1).f1.f1) : Int).toNat).drop (x10_1 : Int).toNat).length = (((rd_T41 t427 x13_1).f1.f1).toNat - x10_1.toNat) from (by rw [List.length_drop, List.length_take]; have h_ : (((rd_T41 t427 x13_1).f1.f1) : Int) ≤ (l0.length : Int) := of_decide_eq_true (by first | (with_reducible assumption) | assumption); omega)] <;> rfl) | (rw [show ((l2.take (((rd_T41 t427 x13_1).f3.f1) : Int).toNat).drop (x12_1 : Int).toNat).length = (((rd_T41 t427 x13_1).f3.f1).toNat - x12_1.toNat) from (by rw [List.length_drop, List.length_take]; have h_ : (((rd_T41 t427 x13_1).f3.f1) : Int) ≤ (l2.length : Int) := of_decide_eq_true (by first | (with_reducible assumption) | assumption); omega)] <;> rfl) | ((try rw [show ((l0.take (((rd_T41 t427 x13_1).f1.f1) : Int).toNat).drop (x10_1 : Int).toNat).length = (((rd_T41 t427 x13_1).f1.f1).toNat - x10_1.toNat) from (by rw [List.length_drop, List.length_take]; have h_ : (((rd_T41 t427 x13_1).f1.f1) : Int) ≤ (l0.length : Int) := of_decide_eq_true (by first | (with_reducible assumption) | assumption); omega)]); (try rw [show ((l2.take (((rd_T41 t427 x13_1).f3.f1) : Int).toNat).drop (x12_1 : Int).toNat).length = (((rd_T41 t427 x13_1).f3.f1).toNat - x12_1.toNat) from (by rw [List.length_drop, List.length_take]; have h_ : (((rd_T41 t427 x13_1).f3.f1) : Int) ≤ (l2.length : Int) := of_decide_eq_true (by first | (with_reducible assumption) | assumption); omega)]); rfl) | rfl | (simp only [List.length_drop, List.length_take]; rfl)) ?_; (with_reducible refine (concordatref05_Same.calls kj12 _ _ ((l0.take (((rd_T41 t427 x13_1).f1.f1) : Int).toNat).drop (x10_1 : Int).toNat) _ _ ((l2.take (((rd_T41 t427 x13_1).f3.f1) : Int).toNat).drop (x12_1 : Int).toNat) t436 _ ?side1 ?side2 ?side3 ?side4 A46.out).mono ?_); (case side1 => repeat (first | exact (Kd.C_below HR432.out (by repeat (first | (with_reducible first | exact HB.out | apply below_alloc | apply pw_below_drewN | apply below_drew1 | refine below_set ?_ GE431.out) | exact HB.out))) | (with_reducible refine Kd.C_alloc ?_ _) | (with_reducible refine Kd.C_drewN ?_ _) | (with_reducible refine Kd.C_drew ?_))); (case side2 => exact HC432.out); (case side3 => repeat (first | exact (Kd.C_below HR434.out (by repeat (first | (with_reducible first | exact HB.out | apply below_alloc | apply pw_below_drewN | apply below_drew1 | refine below_set ?_ GE431.out) | exact HB.out))) | (with_reducible refine Kd.C_alloc ?_ _) | (with_reducible refine Kd.C_drewN ?_ _) | (with_reducible refine Kd.C_drew ?_))); (case side4 => exact HC434.out); rintro e w' ⟨rfl, ⟨nd, rfl⟩⟩; refine ⟨_, rfl, ?_⟩) | ((with_reducible refine gate_callee (f := 17) rfl ?_); refine goesL_ (some 146) rfl rfl Try.func17 (by kernel_rfl) rfl #[.slice A51 ((l1.take (((rd_T41 t427 x13_1).f2.f1) : Int).toNat).drop (x11_1 : Int).toNat).length (c1 - x11_1.toNat), .slice A52 ((l2.take (((rd_T41 t427 x13_1).f3.f1) : Int).toNat).drop (x12_1 : Int).toNat).length (c2 - x12_1.toNat)] rfl (by (try simp only [List.map_toArray, List.map_cons, List.map_nil]); first | done | (rw [show ((l1.take (((rd_T41 t427 x13_1).f2.f1) : Int).toNat).drop (x11_1 : Int).toNat).length = (((rd_T41 t427 x13_1).f2.f1).toNat - x11_1.toNat) from (by rw [List.length_drop, List.length_take]; have h_ : (((rd_T41 t427 x13_1).f2.f1) : Int) ≤ (l1.length : Int) := of_decide_eq_true (by first | (with_reducible assumption) | assumption); omega)] <;> rfl) | (rw [show ((l2.take (((rd_T41 t427 x13_1).f3.f1) : Int).toNat).drop (x12_1 : Int).toNat).length = (((rd_T41 t427 x13_1).f3.f1).toNat - x12_1.toNat) from (by rw [List.length_drop, List.length_take]; have h_ : (((rd_T41 t427 x13_1).f3.f1) : Int) ≤ (l2.length : Int) := of_decide_eq_true (by first | (with_reducible assumption) | assumption); omega)] <;> rfl) | ((try rw [show ((l1.take (((rd_T41 t427 x13_1).f2.f1) : Int).toNat).drop (x11_1 : Int).toNat).length = (((rd_T41 t427 x13_1).f2.f1).toNat - x11_1.toNat) from (by rw [List.length_drop, List.length_take]; have h_ : (((rd_T41 t427 x13_1).f2.f1) : Int) ≤ (l1.length : Int) := of_decide_eq_true (by first | (with_reducible assumption) | assumption); omega)]); (try rw [show ((l2.take (((rd_T41 t427 x13_1).f3.f1) : Int).toNat).drop (x12_1 : Int).toNat).length = (((rd_T41 t427 x13_1).f3.f1).toNat - x12_1.toNat) from (by rw [List.length_drop, List.length_take]; have h_ : (((rd_T41 t427 x13_1).f3.f1) : Int) ≤ (l2.length : Int) := of_decide_eq_true (by first | (with_reducible assumption) | assumption); omega)]); rfl) | rfl | (simp only [List.length_drop, List.length_take]; rfl)) ?_; (with_reducible refine (concordatref05_Same.calls kj12 _ _ ((l1.take (((rd_T41 t427 x13_1).f2.f1) : Int).toNat).drop (x11_1 : Int).toNat) _ _ ((l2.take (((rd_T41 t427 x13_1).f3.f1) : Int).toNat).drop (x12_1 : Int).toNat) t437 _ ?side1 ?side2 ?side3 ?side4 A47.out).mono ?_); (case side1 => repeat (first | exact (Kd.C_below HR433.out (by repeat (first | (with_reducible first | exact HB.out | apply below_alloc | apply pw_below_drewN | apply below_drew1 | refine below_set ?_ GE431.out) | exact HB.out))) | (with_reducible refine Kd.C_alloc ?_ _) | (with_reducible refine Kd.C_drewN ?_ _) | (with_reducible refine Kd.C_drew ?_))); (case side2 => exact HC433.out); (case side3 => repeat (first | exact (Kd.C_below HR434.out (by repeat (first | (with_reducible first | exact HB.out | apply below_alloc | apply pw_below_drewN | apply below_drew1 | refine below_set ?_ GE431.out) | exact HB.out))) | (with_reducible refine Kd.C_alloc ?_ _) | (with_reducible refine Kd.C_drewN ?_ _) | (with_reducible refine Kd.C_drew ?_))); (case side4 => exact HC434.out); rintro e w' ⟨rfl, ⟨nd, rfl⟩⟩; refine ⟨_, rfl, ?_⟩))
                                        (try simp only [Act.put, List.setIfInBounds_toArray, List.set_cons_zero, List.set_cons_succ])
                                        go_cut [147] (fun v147 wc => ∃ (kq : Nat) (x147_47 : Bool), v147 = .bool x147_47 ∧ Aside0 (concordatlaw07_Diff3All.j2 kq l0 l1 l2 t427 x13_1 (!t435) (!t436) t437 4 x147_47 ((rd_T41 t427 x13_1).f0) ((rd_T41 t427 x13_1).f1.f0) ((rd_T41 t427 x13_1).f1.f1) ((rd_T41 t427 x13_1).f2.f0) ((rd_T41 t427 x13_1).f2.f1) ((rd_T41 t427 x13_1).f3.f0) ((rd_T41 t427 x13_1).f3.f1) = some r) ∧ Aside0 (kq ≤ kj12) ∧ Aside0 (Kd.R k41 41 wc w.heap.size (fun k_ => k_ ≠ gb431) (.slice (some ad430) t427.length co14) t427) ∧ Aside0 (wc.heap[gb431]? = some (.cells #[.int .i64 ((rd_T41 t427 x13_1).f0), .int .i64 ((rd_T41 t427 x13_1).f1.f0), .int .i64 ((rd_T41 t427 x13_1).f1.f1), .int .i64 ((rd_T41 t427 x13_1).f2.f0), .int .i64 ((rd_T41 t427 x13_1).f2.f1), .int .i64 ((rd_T41 t427 x13_1).f3.f0), .int .i64 ((rd_T41 t427 x13_1).f3.f1)] 41 (0, 0))) ∧ Aside0 (Below w.heap.size w wc))
                                        case first =>
                                          have H := HC48.out
                                          clear HC48
                                          by_cases c53 : t435 = true
                                          · subst c53
                                            have H1 : (concordatlaw07_Diff3All.j2 kj12 l0 l1 l2 t427 x13_1 (!true) (!t436) t437 4 t436 ((rd_T41 t427 x13_1).f0) ((rd_T41 t427 x13_1).f1.f0) ((rd_T41 t427 x13_1).f1.f1) ((rd_T41 t427 x13_1).f2.f0) ((rd_T41 t427 x13_1).f2.f1) ((rd_T41 t427 x13_1).f3.f0) ((rd_T41 t427 x13_1).f3.f1)) = some r := by rw [if_pos rfl] at H; exact H
                                            clear H
                                            have H := H1
                                            clear H1
                                            have H' := Aside0.mk H
                                            clear H
                                            go_wp2
                                            go_meet
                                            case rel => exact ⟨_, (t436), (by first | rfl | (simp; done) | (simp [*]; done)), H', ⟨by have := HK1.out; have := HJ12.out; first | omega | exact Nat.le_refl _⟩, ⟨by (with_reducible repeat (first | apply Kd.R_alloc | apply Kd.R_drewN | apply Kd.R_drew)); first | exact HO_9.out | exact Kd.R_mono HO_9.out (fun _ _ => trivial)⟩, ⟨by (with_reducible repeat (first | refine blk_drewN ?_ _ | refine blk_drew ?_ | refine blk_alloc ?_ _)); exact BK431.out⟩, ⟨by repeat (first | (with_reducible first | exact HB.out | apply below_alloc | apply pw_below_drewN | apply below_drew1 | refine below_set ?_ GE431.out) | exact HB.out)⟩⟩
                                          · replace c53 := Bool.eq_false_iff.mpr c53
                                            subst c53
                                            have H1 : (concordatlaw07_Diff3All.j2 kj12 l0 l1 l2 t427 x13_1 (!false) (!t436) t437 4 false ((rd_T41 t427 x13_1).f0) ((rd_T41 t427 x13_1).f1.f0) ((rd_T41 t427 x13_1).f1.f1) ((rd_T41 t427 x13_1).f2.f0) ((rd_T41 t427 x13_1).f2.f1) ((rd_T41 t427 x13_1).f3.f0) ((rd_T41 t427 x13_1).f3.f1)) = some r := by rw [if_neg (show ¬ (false = true) by decide)] at H; exact H
                                            clear H
                                            have H := H1
                                            clear H1
                                            have H' := Aside0.mk H
                                            clear H
                                            go_wp2
                                            go_meet
                                            case rel => exact ⟨_, (false), (by first | rfl | (simp; done) | (simp [*]; done)), H', ⟨by have := HK1.out; have := HJ12.out; first | omega | exact Nat.le_refl _⟩, ⟨by (with_reducible repeat (first | apply Kd.R_alloc | apply Kd.R_drewN | apply Kd.R_drew)); first | exact HO_9.out | exact Kd.R_mono HO_9.out (fun _ _ => trivial)⟩, ⟨by (with_reducible repeat (first | refine blk_drewN ?_ _ | refine blk_drew ?_ | refine blk_alloc ?_ _)); exact BK431.out⟩, ⟨by repeat (first | (with_reducible first | exact HB.out | apply below_alloc | apply pw_below_drewN | apply below_drew1 | refine below_set ?_ GE431.out) | exact HB.out)⟩⟩
                                        case rest =>
                                          clear HC48
                                          try clear c1
                                          try clear c2
                                          try clear p2
                                          try clear c3
                                          try clear c4
                                          try clear p4
                                          try clear q4
                                          try clear hx4
                                          try clear c5
                                          try clear p6
                                          try clear c7
                                          try clear c8
                                          try clear c9
                                          try clear c10
                                          try clear c11
                                          try clear c11b0
                                          try clear c12
                                          try clear c12b0
                                          try clear c17
                                          try clear c17b0
                                          try clear c17b1
                                          try clear c18
                                          try clear c18b0
                                          try clear c18b1
                                          try clear c19
                                          try clear c19b0
                                          try clear c19b1
                                          try clear c20
                                          try clear c20b0
                                          try clear c22
                                          try clear c22b0
                                          try clear c24
                                          try clear c24b0
                                          try clear c26
                                          try clear c26b0
                                          try clear c28
                                          try clear c28b0
                                          try clear c34
                                          try clear c35
                                          try clear c35b0
                                          try clear c35b1
                                          try clear c36
                                          try clear c36b0
                                          try clear c36b1
                                          try clear c37
                                          try clear c37b0
                                          try clear c37b1
                                          try clear c38
                                          try clear c38b0
                                          try clear c38b1
                                          try clear c39
                                          try clear c39b0
                                          try clear c39b1
                                          try clear c40
                                          try clear c40b0
                                          try clear c40b1
                                          try clear c41
                                          try clear c41b0
                                          try clear c41b1
                                          try clear c42
                                          try clear c42b0
                                          try clear c42b1
                                          try clear c43
                                          try clear c43b0
                                          try clear c43b1
                                          try clear p43
                                          try clear q43
                                          try clear hx43
                                          try clear c44
                                          try clear c44b0
                                          try clear c44b1
                                          try clear c53
                                          try clear hcz16_0
                                          try clear hcz16_1
                                          try clear hcz16_2
                                          try clear hcz16_3
                                          try clear hcz16_4
                                          try clear hcz16_5
                                          try clear hcz16_6
                                          try clear hcz21_0
                                          try clear hcz21_1
                                          try clear hcz21_2
                                          try clear hcz21_3
                                          try clear hcz21_4
                                          try clear hcz21_5
                                          try clear hcz21_6
                                          try clear hcz23_0
                                          try clear hcz23_1
                                          try clear hcz23_2
                                          try clear hcz23_3
                                          try clear hcz23_4
                                          try clear hcz23_5
                                          try clear hcz23_6
                                          try clear hcz25_0
                                          try clear hcz25_1
                                          try clear hcz25_2
                                          try clear hcz25_3
                                          try clear hcz25_4
                                          try clear hcz25_5
                                          try clear hcz25_6
                                          try clear hcz27_0
                                          try clear hcz27_1
                                          try clear hcz27_2
                                          try clear hcz27_3
                                          try clear hcz27_4
                                          try clear hcz27_5
                                          try clear hcz27_6
                                          try clear hcz29_0
                                          try clear hcz29_1
                                          try clear hcz29_2
                                          try clear hcz29_3
                                          try clear hcz29_4
                                          try clear hcz29_5
                                          try clear hcz29_6
                                          try clear hcz30_0
                                          try clear hcz30_1
                                          try clear hcz30_2
                                          try clear hcz30_3
                                          try clear hcz30_4
                                          try clear hcz30_5
                                          try clear hcz30_6
                                          try clear hcz31_0
                                          try clear hcz31_1
                                          try clear hcz31_2
                                          try clear hcz31_3
                                          try clear hcz31_4
                                          try clear hcz31_5
                                          try clear hcz31_6
                                          try clear hcz32_0
                                          try clear hcz32_1
                                          try clear hcz32_2
                                          try clear hcz32_3
                                          try clear hcz32_4
                                          try clear hcz32_5
                                          try clear hcz32_6
                                          try clear hcz33_0
                                          try clear hcz33_1
                                          try clear hcz33_2
                                          try clear hcz33_3
                                          try clear hcz33_4
                                          try clear hcz33_5
                                          try clear hcz33_6
                                          try clear hcz49_0
                                          try clear hcz49_1
                                          try clear hcz49_2
                                          try clear hcz49_3
                                          try clear hcz49_4
                                          try clear hcz49_5
                                          try clear hcz49_6
                                          try clear hfz16_0
                                          try clear hfz16_1
                                          try clear hfz16_2
                                          try clear hfz16_3
                                          try clear hfz16_4
                                          try clear hfz16_5
                                          try clear hfz16_6
                                          try clear hfz21_0
                                          try clear hfz21_1
                                          try clear hfz21_2
                                          try clear hfz21_3
                                          try clear hfz21_4
                                          try clear hfz21_5
                                          try clear hfz21_6
                                          try clear hfz23_0
                                          try clear hfz23_1
                                          try clear hfz23_2
                                          try clear hfz23_3
                                          try clear hfz23_4
                                          try clear hfz23_5
                                          try clear hfz23_6
                                          try clear hfz25_0
                                          try clear hfz25_1
                                          try clear hfz25_2
                                          try clear hfz25_3
                                          try clear hfz25_4
                                          try clear hfz25_5
                                          try clear hfz25_6
                                          try clear hfz27_0
                                          try clear hfz27_1
                                          try clear hfz27_2
                                          try clear hfz27_3
                                          try clear hfz27_4
                                          try clear hfz27_5
                                          try clear hfz27_6
                                          try clear hfz29_0
                                          try clear hfz29_1
                                          try clear hfz29_2
                                          try clear hfz29_3
                                          try clear hfz29_4
                                          try clear hfz29_5
                                          try clear hfz29_6
                                          try clear hfz30_0
                                          try clear hfz30_1
                                          try clear hfz30_2
                                          try clear hfz30_3
                                          try clear hfz30_4
                                          try clear hfz30_5
                                          try clear hfz30_6
                                          try clear hfz31_0
                                          try clear hfz31_1
                                          try clear hfz31_2
                                          try clear hfz31_3
                                          try clear hfz31_4
                                          try clear hfz31_5
                                          try clear hfz31_6
                                          try clear hfz32_0
                                          try clear hfz32_1
                                          try clear hfz32_2
                                          try clear hfz32_3
                                          try clear hfz32_4
                                          try clear hfz32_5
                                          try clear hfz32_6
                                          try clear hfz33_0
                                          try clear hfz33_1
                                          try clear hfz33_2
                                          try clear hfz33_3
                                          try clear hfz33_4
                                          try clear hfz33_5
                                          try clear hfz33_6
                                          try clear hfz49_0
                                          try clear hfz49_1
                                          try clear hfz49_2
                                          try clear hfz49_3
                                          try clear hfz49_4
                                          try clear hfz49_5
                                          try clear hfz49_6
                                          try clear hx430_0
                                          try clear hx430_1
                                          try clear hx430_2
                                          try clear hx430_3
                                          try clear hx430_4
                                          try clear hx430_5
                                          try clear hx430_6
                                          try clear p2
                                          try clear p4
                                          try clear p430
                                          try clear q4
                                          try clear q430
                                          obtain ⟨kq, x147_47, rfl, HA, HJ47, HO_9, BK431, HB⟩ := hcut
                                          cases kq with
                                          | zero => exact absurd HA.out (by simp [concordatlaw07_Diff3All.j2])
                                          | succ kj47 =>
                                            have H := HA.out
                                            clear HA
                                            simp only [concordatlaw07_Diff3All.j2] at H
                                            by_cases c54 : x147_47 = true
                                            · subst c54
                                              have H1 : (if ((rd_T41 t427 x13_1).f0) = 0 then (concordatlaw07_Diff3All.l0 kj47 l0 l1 l2 t427 ((rd_T41 t427 x13_1).f1.f1) ((rd_T41 t427 x13_1).f2.f1) ((rd_T41 t427 x13_1).f3.f1) (wrap64 (x13_1 + 1))) else (none)) = some r := by rw [if_pos rfl] at H; exact H
                                              clear H
                                              have H := H1
                                              clear H1
                                              by_cases c55 : ((rd_T41 t427 x13_1).f0) = 0
                                              · rw [if_pos c55] at H
                                                have c55b0 : (((rd_T41 t427 x13_1).f0) == 0) = true := beq_iff_eq.mpr c55
                                                have c55b1 : (((rd_T41 t427 x13_1).f0) != 0) = false := bne_eq_false_iff_eq.mpr c55
                                                clear c55
                                                have H' := Aside0.mk H
                                                clear H
                                                have hcz56_0 : wc.cell? ⟨gb431, 0, none⟩ = some (.int .i64 ((rd_T41 t427 x13_1).f0)) := (blk_cell BK431.out 0).trans rfl
                                                have hcz56_1 : wc.cell? ⟨gb431, 1, none⟩ = some (.int .i64 ((rd_T41 t427 x13_1).f1.f0)) := (blk_cell BK431.out 1).trans rfl
                                                have hcz56_2 : wc.cell? ⟨gb431, 2, none⟩ = some (.int .i64 ((rd_T41 t427 x13_1).f1.f1)) := (blk_cell BK431.out 2).trans rfl
                                                have hcz56_3 : wc.cell? ⟨gb431, 3, none⟩ = some (.int .i64 ((rd_T41 t427 x13_1).f2.f0)) := (blk_cell BK431.out 3).trans rfl
                                                have hcz56_4 : wc.cell? ⟨gb431, 4, none⟩ = some (.int .i64 ((rd_T41 t427 x13_1).f2.f1)) := (blk_cell BK431.out 4).trans rfl
                                                have hcz56_5 : wc.cell? ⟨gb431, 5, none⟩ = some (.int .i64 ((rd_T41 t427 x13_1).f3.f0)) := (blk_cell BK431.out 5).trans rfl
                                                have hcz56_6 : wc.cell? ⟨gb431, 6, none⟩ = some (.int .i64 ((rd_T41 t427 x13_1).f3.f1)) := (blk_cell BK431.out 6).trans rfl
                                                have hfz56_0 := blk_frozen BK431.out 0
                                                have hfz56_1 := blk_frozen BK431.out 1
                                                have hfz56_2 := blk_frozen BK431.out 2
                                                have hfz56_3 := blk_frozen BK431.out 3
                                                have hfz56_4 := blk_frozen BK431.out 4
                                                have hfz56_5 := blk_frozen BK431.out 5
                                                have hfz56_6 := blk_frozen BK431.out 6
                                                go_wp2
                                                go_roundg kj47
                                                case measure => have := HK1.out; have := HJ12.out; have := HJ47.out; omega
                                                case rel => exact ⟨(((rd_T41 t427 x13_1).f1.f1)), (((rd_T41 t427 x13_1).f2.f1)), (((rd_T41 t427 x13_1).f3.f1)), (wrap64 (x13_1 + 1)), (by first | rfl | (simp; done) | (simp [*]; done)), (by first | rfl | (simp; done) | (simp [*]; done)), (by first | rfl | (simp; done) | (simp [*]; done)), (by first | rfl | (simp; done) | (simp [*]; done)), H', ⟨by have := HK1.out; have := HJ12.out; have := HJ47.out; omega⟩, ⟨by (with_reducible repeat (first | apply Kd.R_alloc | apply Kd.R_drewN | apply Kd.R_drew)); exact Kd.R_mono HO_9.out (fun _ hk => trivial)⟩, ⟨by repeat (first | (with_reducible first | exact HB.out | apply below_alloc | apply pw_below_drewN | apply below_drew1 | refine below_set ?_ GE431.out) | exact HB.out)⟩⟩
                                              · rw [if_neg c55] at H
                                                exact absurd H (by simp)
                                            · replace c54 := Bool.eq_false_iff.mpr c54
                                              subst c54
                                              have H1 : (if (!t435) = true then (if (!t436) = true then (if t437 = true then (if ((rd_T41 t427 x13_1).f0) = 3 then (concordatlaw07_Diff3All.l0 kj47 l0 l1 l2 t427 ((rd_T41 t427 x13_1).f1.f1) ((rd_T41 t427 x13_1).f2.f1) ((rd_T41 t427 x13_1).f3.f1) (wrap64 (x13_1 + 1))) else (none)) else (if ((rd_T41 t427 x13_1).f0) = 4 then (concordatlaw07_Diff3All.l0 kj47 l0 l1 l2 t427 ((rd_T41 t427 x13_1).f1.f1) ((rd_T41 t427 x13_1).f2.f1) ((rd_T41 t427 x13_1).f3.f1) (wrap64 (x13_1 + 1))) else (none))) else (if ((rd_T41 t427 x13_1).f0) = 1 then (concordatlaw07_Diff3All.l0 kj47 l0 l1 l2 t427 ((rd_T41 t427 x13_1).f1.f1) ((rd_T41 t427 x13_1).f2.f1) ((rd_T41 t427 x13_1).f3.f1) (wrap64 (x13_1 + 1))) else (none))) else (if ((rd_T41 t427 x13_1).f0) = 2 then (concordatlaw07_Diff3All.l0 kj47 l0 l1 l2 t427 ((rd_T41 t427 x13_1).f1.f1) ((rd_T41 t427 x13_1).f2.f1) ((rd_T41 t427 x13_1).f3.f1) (wrap64 (x13_1 + 1))) else (none))) = some r := by rw [if_neg (show ¬ (false = true) by decide)] at H; exact H
                                              clear H
                                              have H := H1
                                              clear H1
                                              by_cases c57 : (!t435) = true
                                              · rw [if_pos c57] at H
                                                have c57b0 : (!t435) = true := c57
                                                obtain rfl : t435 = false := by simpa using c57b0
                                                clear c57
                                                by_cases c58 : (!t436) = true
                                                · rw [if_pos c58] at H
                                                  have c58b0 : (!t436) = true := c58
                                                  obtain rfl : t436 = false := by simpa using c58b0
                                                  clear c58
                                                  by_cases c59 : t437 = true
                                                  · subst c59
                                                    have H1 : (if ((rd_T41 t427 x13_1).f0) = 3 then (concordatlaw07_Diff3All.l0 kj47 l0 l1 l2 t427 ((rd_T41 t427 x13_1).f1.f1) ((rd_T41 t427 x13_1).f2.f1) ((rd_T41 t427 x13_1).f3.f1) (wrap64 (x13_1 + 1))) else (none)) = some r := by rw [if_pos rfl] at H; exact H
                                                    clear H
                                                    have H := H1
                                                    clear H1
                                                    by_cases c60 : ((rd_T41 t427 x13_1).f0) = 3
                                                    · rw [if_pos c60] at H
                                                      have c60b0 : (((rd_T41 t427 x13_1).f0) == 3) = true := beq_iff_eq.mpr c60
                                                      have c60b1 : (((rd_T41 t427 x13_1).f0) != 3) = false := bne_eq_false_iff_eq.mpr c60
                                                      clear c60
                                                      have H' := Aside0.mk H
                                                      clear H
                                                      have hcz61_0 : wc.cell? ⟨gb431, 0, none⟩ = some (.int .i64 ((rd_T41 t427 x13_1).f0)) := (blk_cell BK431.out 0).trans rfl
                                                      have hcz61_1 : wc.cell? ⟨gb431, 1, none⟩ = some (.int .i64 ((rd_T41 t427 x13_1).f1.f0)) := (blk_cell BK431.out 1).trans rfl
                                                      have hcz61_2 : wc.cell? ⟨gb431, 2, none⟩ = some (.int .i64 ((rd_T41 t427 x13_1).f1.f1)) := (blk_cell BK431.out 2).trans rfl
                                                      have hcz61_3 : wc.cell? ⟨gb431, 3, none⟩ = some (.int .i64 ((rd_T41 t427 x13_1).f2.f0)) := (blk_cell BK431.out 3).trans rfl
                                                      have hcz61_4 : wc.cell? ⟨gb431, 4, none⟩ = some (.int .i64 ((rd_T41 t427 x13_1).f2.f1)) := (blk_cell BK431.out 4).trans rfl
                                                      have hcz61_5 : wc.cell? ⟨gb431, 5, none⟩ = some (.int .i64 ((rd_T41 t427 x13_1).f3.f0)) := (blk_cell BK431.out 5).trans rfl
                                                      have hcz61_6 : wc.cell? ⟨gb431, 6, none⟩ = some (.int .i64 ((rd_T41 t427 x13_1).f3.f1)) := (blk_cell BK431.out 6).trans rfl
                                                      have hfz61_0 := blk_frozen BK431.out 0
                                                      have hfz61_1 := blk_frozen BK431.out 1
                                                      have hfz61_2 := blk_frozen BK431.out 2
                                                      have hfz61_3 := blk_frozen BK431.out 3
                                                      have hfz61_4 := blk_frozen BK431.out 4
                                                      have hfz61_5 := blk_frozen BK431.out 5
                                                      have hfz61_6 := blk_frozen BK431.out 6
                                                      go_wp2
                                                      go_roundg kj47
                                                      case measure => have := HK1.out; have := HJ12.out; have := HJ47.out; omega
                                                      case rel => exact ⟨(((rd_T41 t427 x13_1).f1.f1)), (((rd_T41 t427 x13_1).f2.f1)), (((rd_T41 t427 x13_1).f3.f1)), (wrap64 (x13_1 + 1)), (by first | rfl | (simp; done) | (simp [*]; done)), (by first | rfl | (simp; done) | (simp [*]; done)), (by first | rfl | (simp; done) | (simp [*]; done)), (by first | rfl | (simp; done) | (simp [*]; done)), H', ⟨by have := HK1.out; have := HJ12.out; have := HJ47.out; omega⟩, ⟨by (with_reducible repeat (first | apply Kd.R_alloc | apply Kd.R_drewN | apply Kd.R_drew)); exact Kd.R_mono HO_9.out (fun _ hk => trivial)⟩, ⟨by repeat (first | (with_reducible first | exact HB.out | apply below_alloc | apply pw_below_drewN | apply below_drew1 | refine below_set ?_ GE431.out) | exact HB.out)⟩⟩
                                                    · rw [if_neg c60] at H
                                                      exact absurd H (by simp)
                                                  · replace c59 := Bool.eq_false_iff.mpr c59
                                                    subst c59
                                                    have H1 : (if ((rd_T41 t427 x13_1).f0) = 4 then (concordatlaw07_Diff3All.l0 kj47 l0 l1 l2 t427 ((rd_T41 t427 x13_1).f1.f1) ((rd_T41 t427 x13_1).f2.f1) ((rd_T41 t427 x13_1).f3.f1) (wrap64 (x13_1 + 1))) else (none)) = some r := by rw [if_neg (show ¬ (false = true) by decide)] at H; exact H
                                                    clear H
                                                    have H := H1
                                                    clear H1
                                                    by_cases c62 : ((rd_T41 t427 x13_1).f0) = 4
                                                    · rw [if_pos c62] at H
                                                      have c62b0 : (((rd_T41 t427 x13_1).f0) == 4) = true := beq_iff_eq.mpr c62
                                                      have c62b1 : (((rd_T41 t427 x13_1).f0) != 4) = false := bne_eq_false_iff_eq.mpr c62
                                                      clear c62
                                                      have H' := Aside0.mk H
                                                      clear H
                                                      have hcz63_0 : wc.cell? ⟨gb431, 0, none⟩ = some (.int .i64 ((rd_T41 t427 x13_1).f0)) := (blk_cell BK431.out 0).trans rfl
                                                      have hcz63_1 : wc.cell? ⟨gb431, 1, none⟩ = some (.int .i64 ((rd_T41 t427 x13_1).f1.f0)) := (blk_cell BK431.out 1).trans rfl
                                                      have hcz63_2 : wc.cell? ⟨gb431, 2, none⟩ = some (.int .i64 ((rd_T41 t427 x13_1).f1.f1)) := (blk_cell BK431.out 2).trans rfl
                                                      have hcz63_3 : wc.cell? ⟨gb431, 3, none⟩ = some (.int .i64 ((rd_T41 t427 x13_1).f2.f0)) := (blk_cell BK431.out 3).trans rfl
                                                      have hcz63_4 : wc.cell? ⟨gb431, 4, none⟩ = some (.int .i64 ((rd_T41 t427 x13_1).f2.f1)) := (blk_cell BK431.out 4).trans rfl
                                                      have hcz63_5 : wc.cell? ⟨gb431, 5, none⟩ = some (.int .i64 ((rd_T41 t427 x13_1).f3.f0)) := (blk_cell BK431.out 5).trans rfl
                                                      have hcz63_6 : wc.cell? ⟨gb431, 6, none⟩ = some (.int .i64 ((rd_T41 t427 x13_1).f3.f1)) := (blk_cell BK431.out 6).trans rfl
                                                      have hfz63_0 := blk_frozen BK431.out 0
                                                      have hfz63_1 := blk_frozen BK431.out 1
                                                      have hfz63_2 := blk_frozen BK431.out 2
                                                      have hfz63_3 := blk_frozen BK431.out 3
                                                      have hfz63_4 := blk_frozen BK431.out 4
                                                      have hfz63_5 := blk_frozen BK431.out 5
                                                      have hfz63_6 := blk_frozen BK431.out 6
                                                      go_wp2
                                                      go_roundg kj47
                                                      case measure => have := HK1.out; have := HJ12.out; have := HJ47.out; omega
                                                      case rel => exact ⟨(((rd_T41 t427 x13_1).f1.f1)), (((rd_T41 t427 x13_1).f2.f1)), (((rd_T41 t427 x13_1).f3.f1)), (wrap64 (x13_1 + 1)), (by first | rfl | (simp; done) | (simp [*]; done)), (by first | rfl | (simp; done) | (simp [*]; done)), (by first | rfl | (simp; done) | (simp [*]; done)), (by first | rfl | (simp; done) | (simp [*]; done)), H', ⟨by have := HK1.out; have := HJ12.out; have := HJ47.out; omega⟩, ⟨by (with_reducible repeat (first | apply Kd.R_alloc | apply Kd.R_drewN | apply Kd.R_drew)); exact Kd.R_mono HO_9.out (fun _ hk => trivial)⟩, ⟨by repeat (first | (with_reducible first | exact HB.out | apply below_alloc | apply pw_below_drewN | apply below_drew1 | refine below_set ?_ GE431.out) | exact HB.out)⟩⟩
                                                    · rw [if_neg c62] at H
                                                      exact absurd H (by simp)
                                                · rw [if_neg c58] at H
                                                  have c58b0 : (!t436) = false := by simpa using c58
                                                  obtain rfl : t436 = true := by simpa using c58b0
                                                  clear c58
                                                  by_cases c64 : ((rd_T41 t427 x13_1).f0) = 1
                                                  · rw [if_pos c64] at H
                                                    have c64b0 : (((rd_T41 t427 x13_1).f0) == 1) = true := beq_iff_eq.mpr c64
                                                    have c64b1 : (((rd_T41 t427 x13_1).f0) != 1) = false := bne_eq_false_iff_eq.mpr c64
                                                    clear c64
                                                    have H' := Aside0.mk H
                                                    clear H
                                                    have hcz65_0 : wc.cell? ⟨gb431, 0, none⟩ = some (.int .i64 ((rd_T41 t427 x13_1).f0)) := (blk_cell BK431.out 0).trans rfl
                                                    have hcz65_1 : wc.cell? ⟨gb431, 1, none⟩ = some (.int .i64 ((rd_T41 t427 x13_1).f1.f0)) := (blk_cell BK431.out 1).trans rfl
                                                    have hcz65_2 : wc.cell? ⟨gb431, 2, none⟩ = some (.int .i64 ((rd_T41 t427 x13_1).f1.f1)) := (blk_cell BK431.out 2).trans rfl
                                                    have hcz65_3 : wc.cell? ⟨gb431, 3, none⟩ = some (.int .i64 ((rd_T41 t427 x13_1).f2.f0)) := (blk_cell BK431.out 3).trans rfl
                                                    have hcz65_4 : wc.cell? ⟨gb431, 4, none⟩ = some (.int .i64 ((rd_T41 t427 x13_1).f2.f1)) := (blk_cell BK431.out 4).trans rfl
                                                    have hcz65_5 : wc.cell? ⟨gb431, 5, none⟩ = some (.int .i64 ((rd_T41 t427 x13_1).f3.f0)) := (blk_cell BK431.out 5).trans rfl
                                                    have hcz65_6 : wc.cell? ⟨gb431, 6, none⟩ = some (.int .i64 ((rd_T41 t427 x13_1).f3.f1)) := (blk_cell BK431.out 6).trans rfl
                                                    have hfz65_0 := blk_frozen BK431.out 0
                                                    have hfz65_1 := blk_frozen BK431.out 1
                                                    have hfz65_2 := blk_frozen BK431.out 2
                                                    have hfz65_3 := blk_frozen BK431.out 3
                                                    have hfz65_4 := blk_frozen BK431.out 4
                                                    have hfz65_5 := blk_frozen BK431.out 5
                                                    have hfz65_6 := blk_frozen BK431.out 6
                                                    go_wp2
                                                    go_roundg kj47
                                                    case measure => have := HK1.out; have := HJ12.out; have := HJ47.out; omega
                                                    case rel => exact ⟨(((rd_T41 t427 x13_1).f1.f1)), (((rd_T41 t427 x13_1).f2.f1)), (((rd_T41 t427 x13_1).f3.f1)), (wrap64 (x13_1 + 1)), (by first | rfl | (simp; done) | (simp [*]; done)), (by first | rfl | (simp; done) | (simp [*]; done)), (by first | rfl | (simp; done) | (simp [*]; done)), (by first | rfl | (simp; done) | (simp [*]; done)), H', ⟨by have := HK1.out; have := HJ12.out; have := HJ47.out; omega⟩, ⟨by (with_reducible repeat (first | apply Kd.R_alloc | apply Kd.R_drewN | apply Kd.R_drew)); exact Kd.R_mono HO_9.out (fun _ hk => trivial)⟩, ⟨by repeat (first | (with_reducible first | exact HB.out | apply below_alloc | apply pw_below_drewN | apply below_drew1 | refine below_set ?_ GE431.out) | exact HB.out)⟩⟩
                                                  · rw [if_neg c64] at H
                                                    exact absurd H (by simp)
                                              · rw [if_neg c57] at H
                                                have c57b0 : (!t435) = false := by simpa using c57
                                                obtain rfl : t435 = true := by simpa using c57b0
                                                clear c57
                                                by_cases c66 : ((rd_T41 t427 x13_1).f0) = 2
                                                · rw [if_pos c66] at H
                                                  have c66b0 : (((rd_T41 t427 x13_1).f0) == 2) = true := beq_iff_eq.mpr c66
                                                  have c66b1 : (((rd_T41 t427 x13_1).f0) != 2) = false := bne_eq_false_iff_eq.mpr c66
                                                  clear c66
                                                  have H' := Aside0.mk H
                                                  clear H
                                                  have hcz67_0 : wc.cell? ⟨gb431, 0, none⟩ = some (.int .i64 ((rd_T41 t427 x13_1).f0)) := (blk_cell BK431.out 0).trans rfl
                                                  have hcz67_1 : wc.cell? ⟨gb431, 1, none⟩ = some (.int .i64 ((rd_T41 t427 x13_1).f1.f0)) := (blk_cell BK431.out 1).trans rfl
                                                  have hcz67_2 : wc.cell? ⟨gb431, 2, none⟩ = some (.int .i64 ((rd_T41 t427 x13_1).f1.f1)) := (blk_cell BK431.out 2).trans rfl
                                                  have hcz67_3 : wc.cell? ⟨gb431, 3, none⟩ = some (.int .i64 ((rd_T41 t427 x13_1).f2.f0)) := (blk_cell BK431.out 3).trans rfl
                                                  have hcz67_4 : wc.cell? ⟨gb431, 4, none⟩ = some (.int .i64 ((rd_T41 t427 x13_1).f2.f1)) := (blk_cell BK431.out 4).trans rfl
                                                  have hcz67_5 : wc.cell? ⟨gb431, 5, none⟩ = some (.int .i64 ((rd_T41 t427 x13_1).f3.f0)) := (blk_cell BK431.out 5).trans rfl
                                                  have hcz67_6 : wc.cell? ⟨gb431, 6, none⟩ = some (.int .i64 ((rd_T41 t427 x13_1).f3.f1)) := (blk_cell BK431.out 6).trans rfl
                                                  have hfz67_0 := blk_frozen BK431.out 0
                                                  have hfz67_1 := blk_frozen BK431.out 1
                                                  have hfz67_2 := blk_frozen BK431.out 2
                                                  have hfz67_3 := blk_frozen BK431.out 3
                                                  have hfz67_4 := blk_frozen BK431.out 4
                                                  have hfz67_5 := blk_frozen BK431.out 5
                                                  have hfz67_6 := blk_frozen BK431.out 6
                                                  go_wp2
                                                  go_roundg kj47
                                                  case measure => have := HK1.out; have := HJ12.out; have := HJ47.out; omega
                                                  case rel => exact ⟨(((rd_T41 t427 x13_1).f1.f1)), (((rd_T41 t427 x13_1).f2.f1)), (((rd_T41 t427 x13_1).f3.f1)), (wrap64 (x13_1 + 1)), (by first | rfl | (simp; done) | (simp [*]; done)), (by first | rfl | (simp; done) | (simp [*]; done)), (by first | rfl | (simp; done) | (simp [*]; done)), (by first | rfl | (simp; done) | (simp [*]; done)), H', ⟨by have := HK1.out; have := HJ12.out; have := HJ47.out; omega⟩, ⟨by (with_reducible repeat (first | apply Kd.R_alloc | apply Kd.R_drewN | apply Kd.R_drew)); exact Kd.R_mono HO_9.out (fun _ hk => trivial)⟩, ⟨by repeat (first | (with_reducible first | exact HB.out | apply below_alloc | apply pw_below_drewN | apply below_drew1 | refine below_set ?_ GE431.out) | exact HB.out)⟩⟩
                                                · rw [if_neg c66] at H
                                                  exact absurd H (by simp)
                                    · rw [if_neg c43] at H
                                      exact absurd H (by simp)
                                  · rw [if_neg c42] at H
                                    exact absurd H (by simp)
                                · rw [if_neg c41] at H
                                  exact absurd H (by simp)
                              · rw [if_neg c40] at H
                                exact absurd H (by simp)
                            · rw [if_neg c39] at H
                              exact absurd H (by simp)
                          · rw [if_neg c38] at H
                            exact absurd H (by simp)
                        · rw [if_neg c37] at H
                          exact absurd H (by simp)
                      · rw [if_neg c36] at H
                        exact absurd H (by simp)
                    · rw [if_neg c35] at H
                      exact absurd H (by simp)
            · rw [if_neg c12] at H
              exact absurd H (by simp)
          · rw [if_neg c11] at H
            have c11b0 : decide (x13_1 < (t427.length : Int)) = false := decide_eq_false c11
            clear c11
            by_cases c68 : x10_1 = (l0.length : Int)
            · rw [if_pos c68] at H
              have c68b0 : (x10_1 == (l0.length : Int)) = true := beq_iff_eq.mpr c68
              have c68b1 : (x10_1 != (l0.length : Int)) = false := bne_eq_false_iff_eq.mpr c68
              clear c68
              by_cases c69 : x11_1 = (l1.length : Int)
              · rw [if_pos c69] at H
                have c69b0 : (x11_1 == (l1.length : Int)) = true := beq_iff_eq.mpr c69
                have c69b1 : (x11_1 != (l1.length : Int)) = false := bne_eq_false_iff_eq.mpr c69
                clear c69
                obtain rfl := Option.some.inj H
                obtain ⟨Ao70, co70, eo70⟩ := Kd.R_slice HO_9.out
                subst eo70
                go_wp2
                go_ret
                exact ⟨by first | rfl | (simp [errW_none, errW_some] <;> rfl) | (simp [*, errW_none, errW_some] <;> rfl), by repeat (first | (with_reducible first | exact HB.out | apply below_alloc | apply pw_below_drewN | apply below_drew1) | exact HB.out)⟩
              · rw [if_neg c69] at H
                exact absurd H (by simp)
            · rw [if_neg c68] at H
              exact absurd H (by simp)
    · replace c7 := Bool.eq_false_iff.mpr c7
      subst c7
      have H1 : (some true) = some r := by rw [if_neg (show ¬ (false = true) by decide)] at H; exact H
      clear H
      have H := H1
      clear H1
      obtain rfl := Option.some.inj H
      go_enter Try.func5, Try.ntmps5
      go_wp2_with (first | ((with_reducible refine gate_callee (f := 8) rfl ?_); refine goesL_ (some 22) rfl rfl Try.func8 (by kernel_rfl) rfl #[] rfl (by (try simp only [List.map_toArray, List.map_cons, List.map_nil]); first | done | rfl | (simp only [List.length_drop, List.length_take]; rfl)) ?_; (with_reducible refine (concordatlaw07_awake.calls k  true _ A4.out).mono ?_); rintro e w71 ⟨rfl, hb⟩; refine ⟨_, rfl, ?_⟩; have n0_ := Aside0.mk (below_step (by repeat (first | (with_reducible first | exact HB.out | apply below_alloc | apply pw_below_drewN | apply below_drew1) | exact HB.out)) hb); clear HB; have HB := n0_; clear n0_; (try clear hb); (try clear hb2); (try clear hk); (try clear hi)) | ((with_reducible refine gate_callee (f := 9) rfl ?_); refine goesL_ (some 28) rfl rfl Try.func9 (by kernel_rfl) rfl #[.slice A0 l0.length c0, .slice A1 l1.length c1, .slice A2 l2.length c2] rfl (by (try simp only [List.map_toArray, List.map_cons, List.map_nil]); first | done | rfl | (simp only [List.length_drop, List.length_take]; rfl)) ?_; (with_reducible refine (concordatlaw07_few.calls _ _ l0 _ _ l1 _ _ l2 false _ ?side1 ?side2 ?side3 ?side4 ?side5 ?side6 A6.out).mono ?_); (case side1 => repeat (first | exact (Kd.C_below HR0.out HB.out) | (with_reducible refine Kd.C_alloc ?_ _) | (with_reducible refine Kd.C_drewN ?_ _) | (with_reducible refine Kd.C_drew ?_))); (case side2 => exact HC0.out); (case side3 => repeat (first | exact (Kd.C_below HR1.out HB.out) | (with_reducible refine Kd.C_alloc ?_ _) | (with_reducible refine Kd.C_drewN ?_ _) | (with_reducible refine Kd.C_drew ?_))); (case side4 => exact HC1.out); (case side5 => repeat (first | exact (Kd.C_below HR2.out HB.out) | (with_reducible refine Kd.C_alloc ?_ _) | (with_reducible refine Kd.C_drewN ?_ _) | (with_reducible refine Kd.C_drew ?_))); (case side6 => exact HC2.out); rintro e w' ⟨rfl, ⟨nd, rfl⟩⟩; refine ⟨_, rfl, ?_⟩))
      go_ret
      exact ⟨by first | rfl | (simp [errW_none, errW_some] <;> rfl) | (simp [*, errW_none, errW_some] <;> rfl), by repeat (first | (with_reducible first | exact HB.out | apply below_alloc | apply pw_below_drewN | apply below_drew1) | exact HB.out)⟩
  · replace c5 := Bool.eq_false_iff.mpr c5
    subst c5
    have H1 : (none) = some r := by rw [if_neg (show ¬ (false = true) by decide)] at H; exact H
    clear H
    have H := H1
    clear H1
    exact absurd H (by simp)

/-- THE ONE PURE STATEMENT of concordatlaw07_Diff3All: yours. -/
def concordatlaw07_Diff3All.Pure : Prop := ∀ (l0 : List Int) (l1 : List Int) (l2 : List Int), l0.length ≤ maxLen → l0.length * 8 ≤ 140737488351232 → (∀ x ∈ l0, (Lit.int .i64 x).wf = true) → l1.length ≤ maxLen → l1.length * 8 ≤ 140737488351232 → (∀ x ∈ l1, (Lit.int .i64 x).wf = true) → l2.length ≤ maxLen → l2.length * 8 ≤ 140737488351232 → (∀ x ∈ l2, (Lit.int .i64 x).wf = true) → ∃ k, concordatlaw07_Diff3All.f k l0 l1 l2 = some true
theorem concordatlaw07_Diff3All.walk (P : concordatlaw07_Diff3All.Pure) (a0 : Option Addr) (len0 cap0 : Nat) (z0 : List Int) (a1 : Option Addr) (len1 cap1 : Nat) (z1 : List Int) (a2 : Option Addr) (len2 cap2 : Nat) (z2 : List Int) (w : World) (w0 : (a0 = none ∧ len0 = 0 ∧ cap0 = 0 ∧ z0 = []) ∨ ∃ x, a0 = some x ∧ len0 ≤ cap0 ∧ cap0 ≤ maxLen ∧ z0.length = cap0 ∧ (∀ i, i < z0.length → w.cell? (x.add i) = some (.int .i64 (z0.getD i 0))) ∧ ∀ n ∈ z0, (Lit.int .i64 n).wf = true) (y0 : len0 * 8 ≤ 140737488351232) (w1 : (a1 = none ∧ len1 = 0 ∧ cap1 = 0 ∧ z1 = []) ∨ ∃ x, a1 = some x ∧ len1 ≤ cap1 ∧ cap1 ≤ maxLen ∧ z1.length = cap1 ∧ (∀ i, i < z1.length → w.cell? (x.add i) = some (.int .i64 (z1.getD i 0))) ∧ ∀ n ∈ z1, (Lit.int .i64 n).wf = true) (y1 : len1 * 8 ≤ 140737488351232) (w2 : (a2 = none ∧ len2 = 0 ∧ cap2 = 0 ∧ z2 = []) ∨ ∃ x, a2 = some x ∧ len2 ≤ cap2 ∧ cap2 ≤ maxLen ∧ z2.length = cap2 ∧ (∀ i, i < z2.length → w.cell? (x.add i) = some (.int .i64 (z2.getD i 0))) ∧ ∀ n ∈ z2, (Lit.int .i64 n).wf = true) (y2 : len2 * 8 ≤ 140737488351232) :
    Calls Try.prog 5 #[.slice a0 len0 cap0, .slice a1 len1 cap1, .slice a2 len2 cap2] w fun e w' => e = .returned (.bool true) ∧ Below w.heap.size w w' := by
  obtain ⟨l0, rfl, hr0, hm0, hw0, hc0⟩ := ReadsInt.ofRowC w0
  obtain ⟨l1, rfl, hr1, hm1, hw1, hc1⟩ := ReadsInt.ofRowC w1
  obtain ⟨l2, rfl, hr2, hm2, hw2, hc2⟩ := ReadsInt.ofRowC w2
  obtain ⟨k, h⟩ := P l0 l1 l2 hm0 y0 hw0 hm1 y1 hw1 hm2 y2 hw2
  refine (concordatlaw07_Diff3All.calls k _ _ l0 _ _ l1 _ _ l2 true w (Kd.C_of_reads (d := (0 : Int)) (h1 := fun _ => rfl) hr0) hc0 (Kd.C_of_reads (d := (0 : Int)) (h1 := fun _ => rfl) hr1) hc1 (Kd.C_of_reads (d := (0 : Int)) (h1 := fun _ => rfl) hr2) hc2 h).mono ?_
  rintro e w' ⟨rfl, hd⟩
  exact ⟨rfl, hd⟩

end Go.Proofs.Yteafndooaokagaa.PDiff
