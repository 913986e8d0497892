/- Laid by a program of this session out of the seat's translation. -/
import Derived.Test.YteafndooaokagaaPDiffx0
import Derived.Test.YteafndooaokagaaPDiffx9
import Derived.Test.YteafndooaokagaaPDiffx14
import Derived.Test.YteafndooaokagaaPDiffx16
import Derived.Test.YteafndooaokagaaPDiffx17
namespace Go.Proofs.Yteafndooaokagaa.PDiff
open Go.RowKit Go.Proofs.YteafndooaokagaaW.PrintWords Go.Proofs.YteafndooaokagaaW.PrintLast Go.Proofs.YteafndooaokagaaW.PrintMore
attribute [local go_sem] max2_int min2_int max_two min_two max_three min_three max_four min_four   -- for this text's walks alone
set_option linter.unusedVariables false
set_option linter.unusedSimpArgs false
/-! ### l07_Diff3Texts: function 4 -/
def l07_Diff3Texts.j0 : Nat → List ByteArray → List ByteArray → List ByteArray → Bool → Option (Bool)
 | 0, _, _, _, _ => none
 | k + 1, x0, x1, x2, x27 => if x27 = true then (some true) else ((diff3_Texts.f k x0 x1 x2).bind fun bt409 => ((r07_Texts.f k x0 x1 x2).bind fun bt413 => ((diff3_Parts.f k x0 x1 x2).bind fun t417 => ((r07_Parts.f k x0 x1 x2).bind fun t420 => ((r07_Same.f k t417 t420).bind fun t423 => (if t423 = true then (if (bt409.2 == bt413.2) = true then ((r01_Same.f k bt409.1 bt413.1).bind fun t424 => (some t424)) else (none)) else (none)))))))
def l07_Diff3Texts.f (k : Nat) (l0 : List ByteArray) (l1 : List ByteArray) (l2 : List ByteArray) : Option (Bool) := (l07_awake.f k).bind fun t408 => (if t408 = true then (if (l0.length : Int) > 100 then (l07_Diff3Texts.j0 k l0 l1 l2 true) else (if (l1.length : Int) > 100 then (l07_Diff3Texts.j0 k l0 l1 l2 true) else (l07_Diff3Texts.j0 k l0 l1 l2 (decide ((l2.length : Int) > 100))))) else (none))
theorem l07_Diff3Texts.mono_l : ∀ k, (∀ y0 y1 y2 y3, LeO (l07_Diff3Texts.j0 k y0 y1 y2 y3) (l07_Diff3Texts.j0 (k + 1) y0 y1 y2 y3))
 | 0 => fun _ _ _ _ r h => by simp [l07_Diff3Texts.j0] at h
 | k + 1 => by
  have ih0 := l07_Diff3Texts.mono_l k
  ·intro y0 y1 y2 y3
   unfold l07_Diff3Texts.j0
   repeat' first
   | (with_reducible exact ih0 _ _ _ _)
   | (with_reducible exact l07_awake.mono _)
   | (with_reducible exact r01_Same.mono _ _ _)
   | (with_reducible exact r07_Parts.mono _ _ _ _)
   | (with_reducible exact r07_Same.mono _ _ _)
   | (with_reducible exact r07_Texts.mono _ _ _ _)
   | (with_reducible exact diff3_Parts.mono _ _ _ _)
   | (with_reducible exact diff3_Texts.mono _ _ _ _)
   | (with_reducible exact LeO.refl _)
   | (with_reducible exact LeO.none _)
   | (with_reducible refine LeO.ite ?_ ?_)
   | (with_reducible refine LeO.bind ?_ (fun _ => ?_))
   | exact ih0 _ _ _ _
   | exact l07_awake.mono _
   | exact r01_Same.mono _ _ _
   | exact r07_Parts.mono _ _ _ _
   | exact r07_Same.mono _ _ _
   | exact r07_Texts.mono _ _ _ _
   | exact diff3_Parts.mono _ _ _ _
   | exact diff3_Texts.mono _ _ _ _
   | exact LeO.none _
   | refine LeO.ite ?_ ?_
   | refine LeO.bind ?_ (fun _ => ?_)
theorem l07_Diff3Texts.mono : ∀ a0 a1 a2 k, LeO (l07_Diff3Texts.f k a0 a1 a2) (l07_Diff3Texts.f (k + 1) a0 a1 a2) := by
 intro a0 a1 a2 k
 have ih0 := l07_Diff3Texts.mono_l k
 unfold l07_Diff3Texts.f
 repeat' first
   | (with_reducible exact ih0 _ _ _ _)
   | (with_reducible exact l07_awake.mono _)
   | (with_reducible exact r01_Same.mono _ _ _)
   | (with_reducible exact r07_Parts.mono _ _ _ _)
   | (with_reducible exact r07_Same.mono _ _ _)
   | (with_reducible exact r07_Texts.mono _ _ _ _)
   | (with_reducible exact diff3_Parts.mono _ _ _ _)
   | (with_reducible exact diff3_Texts.mono _ _ _ _)
   | (with_reducible exact LeO.refl _)
   | (with_reducible exact LeO.none _)
   | (with_reducible refine LeO.ite ?_ ?_)
   | (with_reducible refine LeO.bind ?_ (fun _ => ?_))
   | exact ih0 _ _ _ _
   | exact l07_awake.mono _
   | exact r01_Same.mono _ _ _
   | exact r07_Parts.mono _ _ _ _
   | exact r07_Same.mono _ _ _
   | exact r07_Texts.mono _ _ _ _
   | exact diff3_Parts.mono _ _ _ _
   | exact diff3_Texts.mono _ _ _ _
   | exact LeO.none _
   | refine LeO.ite ?_ ?_
   | refine LeO.bind ?_ (fun _ => ?_)
set_option maxHeartbeats 8000000 in
set_option maxRecDepth 100000 in
theorem l07_Diff3Texts.calls (k : Nat) (A0 : Option Addr) (c0 : Nat) (l0 : List ByteArray) (A1 : Option Addr) (c1 : Nat) (l1 : List ByteArray) (A2 : Option Addr) (c2 : Nat) (l2 : List ByteArray) (r : Bool) (w : World) (hr0 : Kd.C Kd.string w A0 l0.length l0) (hc0 : l0.length ≤ c0) (hr1 : Kd.C Kd.string w A1 l1.length l1) (hc1 : l1.length ≤ c1) (hr2 : Kd.C Kd.string w A2 l2.length l2) (hc2 : l2.length ≤ c2) (h : l07_Diff3Texts.f k l0 l1 l2 = some r) :
  Calls Try.prog 4 #[.slice A0 l0.length c0, .slice A1 l1.length c1, .slice A2 l2.length c2] w fun e w' => e = .returned (.bool r) ∧ Below w.heap.size w w' := by
 have HR0 := Zm hr0
 have HC0 := Zm hc0
 clear hr0 hc0
 have HR1 := Zm hr1
 have HC1 := Zm hc1
 clear hr1 hc1
 have HR2 := Zm hr2
 have HC2 := Zm hc2
 clear hr2 hc2
 have HB := Zm (Below.refl w.heap.size w)
 have H : ((l07_awake.f k).bind fun t408 => (if t408 = true then (if (l0.length : Int) > 100 then (l07_Diff3Texts.j0 k l0 l1 l2 true) else (if (l1.length : Int) > 100 then (l07_Diff3Texts.j0 k l0 l1 l2 true) else (l07_Diff3Texts.j0 k l0 l1 l2 (decide ((l2.length : Int) > 100))))) else (none))) = some r := h
 clear h
 replace H := Option.bind_eq_some_iff.mp H
 obtain ⟨t408, A40, H⟩ := H
 replace H : (if t408 = true then (if (l0.length : Int) > 100 then (l07_Diff3Texts.j0 k l0 l1 l2 true) else (if (l1.length : Int) > 100 then (l07_Diff3Texts.j0 k l0 l1 l2 true) else (l07_Diff3Texts.j0 k l0 l1 l2 (decide ((l2.length : Int) > 100))))) else (none)) = some r := H
 have A4 := Zm A40
 clear A40
 by_cases c5 : t408 = true
 ·subst c5
  have H1 : (if (l0.length : Int) > 100 then (l07_Diff3Texts.j0 k l0 l1 l2 true) else (if (l1.length : Int) > 100 then (l07_Diff3Texts.j0 k l0 l1 l2 true) else (l07_Diff3Texts.j0 k l0 l1 l2 (decide ((l2.length : Int) > 100))))) = some r := by rw [if_pos rfl] at H; exact H
  clear H
  have H := H1
  clear H1
  have HC6 := Zm H
  clear H
  go_enter Try.func4, Try.ntmps4
  go_upto_region 4 with (first | ((with_reducible refine gate_callee (f := 8) rfl ?_); refine goesL_ (some 12) rfl rfl Try.func8 (by kernel_rfl) rfl #[] rfl (by (try simp only [List.map_toArray, List.map_cons, List.map_nil]); first | done | rfl | (simp only [List.length_drop, List.length_take]; rfl)) ?_; (with_reducible refine (l07_awake.calls k  true _ A4.out).mono ?_); rintro e w7 ⟨rfl, hb⟩; refine ⟨_, rfl, ?_⟩; have n0_ := Zm (below_step (by repeat (first | (with_reducible first | exact HB.out | apply below_alloc | apply Zd | apply below_drew1) | exact HB.out)) hb); clear HB; have HB := n0_; clear n0_; (try clear hb); (try clear hb2); (try clear hk); (try clear hi)))
  (try simp only [Act.put, List.setIfInBounds_toArray, List.set_cons_zero, List.set_cons_succ])
  go_cut [27] (fun v27 wc => ∃ (kq : Nat) (x27_5 : Bool), v27 = .bool x27_5 ∧ Aside0 (l07_Diff3Texts.j0 kq l0 l1 l2 x27_5 = some r) ∧ Aside0 (kq ≤ k) ∧ Aside0 (Below w.heap.size w wc))
  case first =>
   have H := HC6.out
   clear HC6
   by_cases c8 : (l0.length : Int) > 100
   ·rw [if_pos c8] at H
    have c8b0 : decide (100 < (l0.length : Int)) = true := decide_eq_true c8
    have c8b1 : decide (100 < l0.length) = true := decide_eq_true (by omega)
    clear c8
    (first | rw [c8b0] | (simp only [i64_w, i32_w]; rw [c8b0]) | skip)
    have H' := Zm H
    clear H
    go_wp2
    go_meet
    case rel => exact ⟨_, (true), (by first | rfl | (simp; done) | (simp [*]; done)), H', ⟨by first | omega | exact Nat.le_refl _⟩, ⟨by repeat (first | (with_reducible first | exact HB.out | apply below_alloc | apply Zd | apply below_drew1) | exact HB.out)⟩⟩
   ·rw [if_neg c8] at H
    have c8b0 : decide (100 < (l0.length : Int)) = false := decide_eq_false c8
    have c8b1 : decide (100 < l0.length) = false := decide_eq_false (by omega)
    clear c8
    (first | rw [c8b0] | (simp only [i64_w, i32_w]; rw [c8b0]) | skip)
    by_cases c9 : (l1.length : Int) > 100
    ·rw [if_pos c9] at H
     have c9b0 : decide (100 < (l1.length : Int)) = true := decide_eq_true c9
     have c9b1 : decide (100 < l1.length) = true := decide_eq_true (by omega)
     clear c9
     have H' := Zm H
     clear H
     go_wp2
     go_meet
     case rel => exact ⟨_, (true), (by first | rfl | (simp; done) | (simp [*]; done)), H', ⟨by first | omega | exact Nat.le_refl _⟩, ⟨by repeat (first | (with_reducible first | exact HB.out | apply below_alloc | apply Zd | apply below_drew1) | exact HB.out)⟩⟩
    ·rw [if_neg c9] at H
     have c9b0 : decide (100 < (l1.length : Int)) = false := decide_eq_false c9
     have c9b1 : decide (100 < l1.length) = false := decide_eq_false (by omega)
     clear c9
     have H' := Zm H
     clear H
     go_wp2
     go_meet
     case rel => exact ⟨_, (decide ((l2.length : Int) > 100)), (by first | rfl | (simp; done) | (simp [*]; done)), H', ⟨by first | omega | exact Nat.le_refl _⟩, ⟨by repeat (first | (with_reducible first | exact HB.out | apply below_alloc | apply Zd | apply below_drew1) | exact HB.out)⟩⟩
  case rest =>
   clear HC6
   try clear c1
   try clear c2
   try clear p2
   try clear c4
   try clear c5
   try clear c8
   try clear c8b0
   try clear c8b1
   try clear c9
   try clear c9b0
   try clear c9b1
   obtain ⟨kq, x27_5, rfl, HA, HJ5, HB⟩ := hcut
   cases kq with
   | zero => exact absurd HA.out (by simp [l07_Diff3Texts.j0])
   | succ kj5 =>
    have H := HA.out
    clear HA
    simp only [l07_Diff3Texts.j0] at H
    by_cases c10 : x27_5 = true
    ·subst c10
     have H1 : (some true) = some r := by rw [if_pos rfl] at H; exact H
     clear H
     have H := H1
     clear H1
     obtain rfl := Option.some.inj H
     go_wp2
     go_ret
     exact ⟨by first | rfl | (simp [errW_none, errW_some] <;> rfl) | (simp [*, errW_none, errW_some] <;> rfl), by repeat (first | (with_reducible first | exact HB.out | apply below_alloc | apply Zd | apply below_drew1) | exact HB.out)⟩
    ·replace c10 := Bool.eq_false_iff.mpr c10
     subst c10
     have H1 : ((diff3_Texts.f kj5 l0 l1 l2).bind fun bt409 => ((r07_Texts.f kj5 l0 l1 l2).bind fun bt413 => ((diff3_Parts.f kj5 l0 l1 l2).bind fun t417 => ((r07_Parts.f kj5 l0 l1 l2).bind fun t420 => ((r07_Same.f kj5 t417 t420).bind fun t423 => (if t423 = true then (if (bt409.2 == bt413.2) = true then ((r01_Same.f kj5 bt409.1 bt413.1).bind fun t424 => (some t424)) else (none)) else (none))))))) = some r := by rw [if_neg (show ¬ (false = true) by decide)] at H; exact H
     clear H
     have H := H1
     clear H1
     replace H := Option.bind_eq_some_iff.mp H
     obtain ⟨⟨t409, t410⟩, A110, H⟩ := H
     replace H : ((r07_Texts.f kj5 l0 l1 l2).bind fun bt413 => ((diff3_Parts.f kj5 l0 l1 l2).bind fun t417 => ((r07_Parts.f kj5 l0 l1 l2).bind fun t420 => ((r07_Same.f kj5 t417 t420).bind fun t423 => (if t423 = true then (if (t410 == bt413.2) = true then ((r01_Same.f kj5 t409 bt413.1).bind fun t424 => (some t424)) else (none)) else (none)))))) = some r := H
     have A11 := Zm A110
     clear A110
     replace H := Option.bind_eq_some_iff.mp H
     obtain ⟨⟨t413, t414⟩, A120, H⟩ := H
     replace H : ((diff3_Parts.f kj5 l0 l1 l2).bind fun t417 => ((r07_Parts.f kj5 l0 l1 l2).bind fun t420 => ((r07_Same.f kj5 t417 t420).bind fun t423 => (if t423 = true then (if (t410 == t414) = true then ((r01_Same.f kj5 t409 t413).bind fun t424 => (some t424)) else (none)) else (none))))) = some r := H
     have A12 := Zm A120
     clear A120
     replace H := Option.bind_eq_some_iff.mp H
     obtain ⟨t417, A130, H⟩ := H
     replace H : ((r07_Parts.f kj5 l0 l1 l2).bind fun t420 => ((r07_Same.f kj5 t417 t420).bind fun t423 => (if t423 = true then (if (t410 == t414) = true then ((r01_Same.f kj5 t409 t413).bind fun t424 => (some t424)) else (none)) else (none)))) = some r := H
     have A13 := Zm A130
     clear A130
     replace H := Option.bind_eq_some_iff.mp H
     obtain ⟨t420, A140, H⟩ := H
     replace H : ((r07_Same.f kj5 t417 t420).bind fun t423 => (if t423 = true then (if (t410 == t414) = true then ((r01_Same.f kj5 t409 t413).bind fun t424 => (some t424)) else (none)) else (none))) = some r := H
     have A14 := Zm A140
     clear A140
     replace H := Option.bind_eq_some_iff.mp H
     obtain ⟨t423, A150, H⟩ := H
     replace H : (if t423 = true then (if (t410 == t414) = true then ((r01_Same.f kj5 t409 t413).bind fun t424 => (some t424)) else (none)) else (none)) = some r := H
     have A15 := Zm A150
     clear A150
     by_cases c16 : t423 = true
     ·subst c16
      have H1 : (if (t410 == t414) = true then ((r01_Same.f kj5 t409 t413).bind fun t424 => (some t424)) else (none)) = some r := by rw [if_pos rfl] at H; exact H
      clear H
      have H := H1
      clear H1
      by_cases c17 : (t410 == t414) = true
      ·rw [if_pos c17] at H
       have c17b0 : (t410 == t414) = true := c17
       (try (have c17b1 : decide (t410 = t414) = true := by simpa using c17))
       (try (have c17b2 : (t410 == t414) = true := by simpa using c17))
       clear c17
       replace H := Option.bind_eq_some_iff.mp H
       obtain ⟨t424, A180, H⟩ := H
       replace H : (some t424) = some r := H
       have A18 := Zm A180
       clear A180
       obtain rfl := Option.some.inj H
       go_wp2_with (first | ((with_reducible refine gate_callee (f := 18) rfl ?_); refine goesL_ (some 32) rfl rfl Try.func18 (by kernel_rfl) rfl #[.slice A0 l0.length c0, .slice A1 l1.length c1, .slice A2 l2.length c2] rfl (by (try simp only [List.map_toArray, List.map_cons, List.map_nil]); first | done | rfl | (simp only [List.length_drop, List.length_take]; rfl)) ?_; (with_reducible refine (diff3_Texts.calls kj5 _ _ l0 _ _ l1 _ _ l2 t409 t410 _ ?side1 ?side2 ?side3 ?side4 ?side5 ?side6 A11.out).mono ?_); (case side1 => repeat (first | exact (Kd.C_below HR0.out HB.out) | (with_reducible refine Kd.C_alloc ?_ _) | (with_reducible refine Kd.C_drewN ?_ _) | (with_reducible refine Kd.C_drew ?_))); (case side2 => exact HC0.out); (case side3 => repeat (first | exact (Kd.C_below HR1.out HB.out) | (with_reducible refine Kd.C_alloc ?_ _) | (with_reducible refine Kd.C_drewN ?_ _) | (with_reducible refine Kd.C_drew ?_))); (case side4 => exact HC1.out); (case side5 => repeat (first | exact (Kd.C_below HR2.out HB.out) | (with_reducible refine Kd.C_alloc ?_ _) | (with_reducible refine Kd.C_drewN ?_ _) | (with_reducible refine Kd.C_drew ?_))); (case side6 => exact HC2.out); rintro e w19 ⟨v411, rfl, ho0, hb⟩; refine ⟨_, rfl, ?_⟩; have n0_ := Zm (Kd.R_lower ho0 (below_size (by repeat (first | (with_reducible first | exact HB.out | apply below_alloc | apply Zd | apply below_drew1) | exact HB.out)))); have n1_ := Zm (below_step (by repeat (first | (with_reducible first | exact HB.out | apply below_alloc | apply Zd | apply below_drew1) | exact HB.out)) hb); clear HB; have HO412 := n0_; have HB := n1_; clear n0_ n1_; (try clear hb); (try clear hb2); (try clear hk); (try clear hi); (try clear ho0)) | ((with_reducible refine gate_callee (f := 19) rfl ?_); refine goesL_ (some 39) rfl rfl Try.func19 (by kernel_rfl) rfl #[.slice A0 l0.length c0, .slice A1 l1.length c1, .slice A2 l2.length c2] rfl (by (try simp only [List.map_toArray, List.map_cons, List.map_nil]); first | done | rfl | (simp only [List.length_drop, List.length_take]; rfl)) ?_; (with_reducible refine (r07_Texts.calls kj5 _ _ l0 _ _ l1 _ _ l2 t413 t414 _ ?side1 ?side2 ?side3 ?side4 ?side5 ?side6 A12.out).mono ?_); (case side1 => repeat (first | exact (Kd.C_below HR0.out HB.out) | (with_reducible refine Kd.C_alloc ?_ _) | (with_reducible refine Kd.C_drewN ?_ _) | (with_reducible refine Kd.C_drew ?_))); (case side2 => exact HC0.out); (case side3 => repeat (first | exact (Kd.C_below HR1.out HB.out) | (with_reducible refine Kd.C_alloc ?_ _) | (with_reducible refine Kd.C_drewN ?_ _) | (with_reducible refine Kd.C_drew ?_))); (case side4 => exact HC1.out); (case side5 => repeat (first | exact (Kd.C_below HR2.out HB.out) | (with_reducible refine Kd.C_alloc ?_ _) | (with_reducible refine Kd.C_drewN ?_ _) | (with_reducible refine Kd.C_drew ?_))); (case side6 => exact HC2.out); rintro e w20 ⟨v415, rfl, ho0, hb⟩; refine ⟨_, rfl, ?_⟩; have n0_ := Zm (Kd.R_elder' (by (with_reducible repeat (first | apply Kd.R_alloc | apply Kd.R_drewN | apply Kd.R_drew)); exact HO412.out) (Kd.R_base ho0) hb); have n1_ := Zm (Kd.R_lower (Kd.R_new' ho0 (Kd.R_lt (by (with_reducible repeat (first | apply Kd.R_alloc | apply Kd.R_drewN | apply Kd.R_drew)); exact HO412.out))) (below_size (by repeat (first | (with_reducible first | exact HB.out | apply below_alloc | apply Zd | apply below_drew1) | exact HB.out)))); have n2_ := Zm (below_step (by repeat (first | (with_reducible first | exact HB.out | apply below_alloc | apply Zd | apply below_drew1) | exact HB.out)) hb); clear HO412; clear HB; have HO412 := n0_; have HO416 := n1_; have HB := n2_; clear n0_ n1_ n2_; (try clear hb); (try clear hb2); (try clear hk); (try clear hi); (try clear ho0)) | ((with_reducible refine gate_callee (f := 20) rfl ?_); refine goesL_ (some 45) rfl rfl Try.func20 (by kernel_rfl) rfl #[.slice A0 l0.length c0, .slice A1 l1.length c1, .slice A2 l2.length c2] rfl (by (try simp only [List.map_toArray, List.map_cons, List.map_nil]); first | done | rfl | (simp only [List.length_drop, List.length_take]; rfl)) ?_; (with_reducible refine (diff3_Parts.calls kj5 (fun k_ => k_ < w.heap.size) _ _ l0 (fun k_ => k_ < w.heap.size) _ _ l1 (fun k_ => k_ < w.heap.size) _ _ l2 t417 _ ?side1 ?side2 ?side3 A13.out).mono ?_); (case side1 => exact Kd.V_mk HC0.out (Kd.F_below (Kd.C_F Kd.heap_string HR0.out) (by repeat (first | (with_reducible first | exact HB.out | apply below_alloc | apply Zd | apply below_drew1) | exact HB.out)))); (case side2 => exact Kd.V_mk HC1.out (Kd.F_below (Kd.C_F Kd.heap_string HR1.out) (by repeat (first | (with_reducible first | exact HB.out | apply below_alloc | apply Zd | apply below_drew1) | exact HB.out)))); (case side3 => exact Kd.V_mk HC2.out (Kd.F_below (Kd.C_F Kd.heap_string HR2.out) (by repeat (first | (with_reducible first | exact HB.out | apply below_alloc | apply Zd | apply below_drew1) | exact HB.out)))); rintro e w21 ⟨v418, rfl, ho0, hb⟩; refine ⟨_, rfl, ?_⟩; have n0_ := Zm (Kd.R_below (by (with_reducible repeat (first | apply Kd.R_alloc | apply Kd.R_drewN | apply Kd.R_drew)); exact HO412.out) hb); have n1_ := Zm (Kd.R_below (by (with_reducible repeat (first | apply Kd.R_alloc | apply Kd.R_drewN | apply Kd.R_drew)); exact HO416.out) hb); have n2_ := Zm (Kd.R_lower (Kd.R_mono (ok' := fun k_ => True) ho0 (fun _ hk_ => trivial)) (below_size (by repeat (first | (with_reducible first | exact HB.out | apply below_alloc | apply Zd | apply below_drew1) | exact HB.out)))); have n3_ := Zm (below_step (by repeat (first | (with_reducible first | exact HB.out | apply below_alloc | apply Zd | apply below_drew1) | exact HB.out)) hb); clear HO412; clear HO416; clear HB; have HO412 := n0_; have HO416 := n1_; have HO419 := n2_; have HB := n3_; clear n0_ n1_ n2_ n3_; (try clear hb); (try clear hb2); (try clear hk); (try clear hi); (try clear ho0)) | ((with_reducible refine gate_callee (f := 21) rfl ?_); refine goesL_ (some 49) rfl rfl Try.func21 (by kernel_rfl) rfl #[.slice A0 l0.length c0, .slice A1 l1.length c1, .slice A2 l2.length c2] rfl (by (try simp only [List.map_toArray, List.map_cons, List.map_nil]); first | done | rfl | (simp only [List.length_drop, List.length_take]; rfl)) ?_; (with_reducible refine (r07_Parts.calls kj5 (fun k_ => k_ < w.heap.size) _ _ l0 (fun k_ => k_ < w.heap.size) _ _ l1 (fun k_ => k_ < w.heap.size) _ _ l2 t420 _ ?side1 ?side2 ?side3 A14.out).mono ?_); (case side1 => exact Kd.V_mk HC0.out (Kd.F_below (Kd.C_F Kd.heap_string HR0.out) (by repeat (first | (with_reducible first | exact HB.out | apply below_alloc | apply Zd | apply below_drew1) | exact HB.out)))); (case side2 => exact Kd.V_mk HC1.out (Kd.F_below (Kd.C_F Kd.heap_string HR1.out) (by repeat (first | (with_reducible first | exact HB.out | apply below_alloc | apply Zd | apply below_drew1) | exact HB.out)))); (case side3 => exact Kd.V_mk HC2.out (Kd.F_below (Kd.C_F Kd.heap_string HR2.out) (by repeat (first | (with_reducible first | exact HB.out | apply below_alloc | apply Zd | apply below_drew1) | exact HB.out)))); rintro e w22 ⟨v421, rfl, ho0, hb⟩; refine ⟨_, rfl, ?_⟩; have n0_ := Zm (Kd.R_below (by (with_reducible repeat (first | apply Kd.R_alloc | apply Kd.R_drewN | apply Kd.R_drew)); exact HO412.out) hb); have n1_ := Zm (Kd.R_below (by (with_reducible repeat (first | apply Kd.R_alloc | apply Kd.R_drewN | apply Kd.R_drew)); exact HO416.out) hb); have n2_ := Zm (Kd.R_elder' (by (with_reducible repeat (first | apply Kd.R_alloc | apply Kd.R_drewN | apply Kd.R_drew)); exact HO419.out) (Kd.R_base ho0) hb); have n3_ := Zm (Kd.R_lower (Kd.R_new' (Kd.R_mono (ok' := fun k_ => True) ho0 (fun _ hk_ => trivial)) (Kd.R_lt (by (with_reducible repeat (first | apply Kd.R_alloc | apply Kd.R_drewN | apply Kd.R_drew)); exact HO419.out))) (below_size (by repeat (first | (with_reducible first | exact HB.out | apply below_alloc | apply Zd | apply below_drew1) | exact HB.out)))); have n4_ := Zm (below_step (by repeat (first | (with_reducible first | exact HB.out | apply below_alloc | apply Zd | apply below_drew1) | exact HB.out)) hb); clear HO412; clear HO416; clear HO419; clear HB; have HO412 := n0_; have HO416 := n1_; have HO419 := n2_; have HO422 := n3_; have HB := n4_; clear n0_ n1_ n2_ n3_ n4_; (try clear hb); (try clear hb2); (try clear hk); (try clear hi); (try clear ho0); obtain ⟨Ao23, co23, eo23⟩ := Kd.R_slice HO419.out; subst eo23; obtain ⟨Ao24, co24, eo24⟩ := Kd.R_slice HO422.out; subst eo24) | ((with_reducible refine gate_callee (f := 13) rfl ?_); refine goesL_ (some 50) rfl rfl Try.func13 (by kernel_rfl) rfl #[.slice Ao23 t417.length co23, .slice Ao24 t420.length co24] rfl (by (try simp only [List.map_toArray, List.map_cons, List.map_nil]); first | done | rfl | (simp only [List.length_drop, List.length_take]; rfl)) ?_; (with_reducible refine (r07_Same.calls kj5 _ _ t417 _ _ t420 true _ ?side1 ?side2 ?side3 ?side4 A15.out).mono ?_); (case side1 => repeat (first | exact (Kd.R_reads' HO419.out).2.2 | (with_reducible refine Kd.C_alloc ?_ _) | (with_reducible refine Kd.C_drewN ?_ _) | (with_reducible refine Kd.C_drew ?_))); (case side2 => exact (Kd.R_reads' HO419.out).2.1); (case side3 => repeat (first | exact (Kd.R_reads' HO422.out).2.2 | (with_reducible refine Kd.C_alloc ?_ _) | (with_reducible refine Kd.C_drewN ?_ _) | (with_reducible refine Kd.C_drew ?_))); (case side4 => exact (Kd.R_reads' HO422.out).2.1); rintro e w' ⟨rfl, ⟨nd, rfl⟩⟩; refine ⟨_, rfl, ?_⟩; obtain ⟨Ao25, co25, eo25⟩ := Kd.R_slice HO412.out; subst eo25; obtain ⟨Ao26, co26, eo26⟩ := Kd.R_slice HO416.out; subst eo26) | (go_at_call 22; (with_reducible refine (r01_Same.calls kj5 _ _ t409 _ _ t413 t424 _ ?side1 ?side2 ?side3 ?side4 A18.out).mono ?_); (case side1 => repeat (first | exact (Kd.R_reads' HO412.out).2.2 | (with_reducible refine Kd.C_alloc ?_ _) | (with_reducible refine Kd.C_drewN ?_ _) | (with_reducible refine Kd.C_drew ?_))); (case side2 => exact (Kd.R_reads' HO412.out).2.1); (case side3 => repeat (first | exact (Kd.R_reads' HO416.out).2.2 | (with_reducible refine Kd.C_alloc ?_ _) | (with_reducible refine Kd.C_drewN ?_ _) | (with_reducible refine Kd.C_drew ?_))); (case side4 => exact (Kd.R_reads' HO416.out).2.1); rintro e w' ⟨rfl, ⟨nd, rfl⟩⟩))
       go_ret
       exact ⟨by first | rfl | (simp [errW_none, errW_some] <;> rfl) | (simp [*, errW_none, errW_some] <;> rfl), by repeat (first | (with_reducible first | exact HB.out | apply below_alloc | apply Zd | apply below_drew1) | exact HB.out)⟩
      ·rw [if_neg c17] at H
       exact absurd H (by simp)
     ·replace c16 := Bool.eq_false_iff.mpr c16
      subst c16
      have H1 : (none) = some r := by rw [if_neg (show ¬ (false = true) by decide)] at H; exact H
      clear H
      have H := H1
      clear H1
      exact absurd H (by simp)
 ·replace c5 := Bool.eq_false_iff.mpr c5
  subst c5
  have H1 : (none) = some r := by rw [if_neg (show ¬ (false = true) by decide)] at H; exact H
  clear H
  have H := H1
  clear H1
  exact absurd H (by simp)
end Go.Proofs.Yteafndooaokagaa.PDiff
