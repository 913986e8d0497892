/- Laid by a program of this session out of the seat's translation. -/
import Derived.Test.YteafndooaokagaaPDiffx0
import Derived.Test.YteafndooaokagaaPDiffx14
import Derived.Test.YteafndooaokagaaPDiffx16
namespace Go.Proofs.Yteafndooaokagaa.PDiff
open Go.RowKit Go.Proofs.YteafndooaokagaaW.PrintWords Go.Proofs.YteafndooaokagaaW.PrintLast Go.Proofs.YteafndooaokagaaW.PrintMore
attribute [local go_sem] max2_int min2_int max_two min_two max_three min_three max_four min_four   -- for this text's walks alone
set_option linter.unusedVariables false
set_option linter.unusedSimpArgs false
/-! ### r07_Texts: function 19 -/
def r07_Texts.l0 : Nat → List ByteArray → List ByteArray → List (S41) → List ByteArray → Int → Option (List ByteArray × Bool)
 | 0, _, _, _, _, _ => none
 | k + 1, x1, x2, x8, x10, x11 => if x11 < (x8.length : Int) then (if 0 ≤ x11 then (if ((rd_T41 x8 x11).f0) = 2 then (if 0 ≤ ((rd_T41 x8 x11).f3.f0) then (if ((rd_T41 x8 x11).f3.f0) ≤ ((rd_T41 x8 x11).f3.f1) then (if ((rd_T41 x8 x11).f3.f1) ≤ (x2.length : Int) then (if x10.length + ((x2.take (((rd_T41 x8 x11).f3.f1) : Int).toNat).drop (((rd_T41 x8 x11).f3.f0) : Int).toNat).length < 8796093022208 then (r07_Texts.l0 k x1 x2 x8 (x10 ++ ((x2.take (((rd_T41 x8 x11).f3.f1) : Int).toNat).drop (((rd_T41 x8 x11).f3.f0) : Int).toNat)) (wrap64 (x11 + 1))) else (none)) else (none)) else (none)) else (none)) else (if 0 ≤ ((rd_T41 x8 x11).f2.f0) then (if ((rd_T41 x8 x11).f2.f0) ≤ ((rd_T41 x8 x11).f2.f1) then (if ((rd_T41 x8 x11).f2.f1) ≤ (x1.length : Int) then (if x10.length + ((x1.take (((rd_T41 x8 x11).f2.f1) : Int).toNat).drop (((rd_T41 x8 x11).f2.f0) : Int).toNat).length < 8796093022208 then (r07_Texts.l0 k x1 x2 x8 (x10 ++ ((x1.take (((rd_T41 x8 x11).f2.f1) : Int).toNat).drop (((rd_T41 x8 x11).f2.f0) : Int).toNat)) (wrap64 (x11 + 1))) else (none)) else (none)) else (none)) else (none))) else (none)) else (some (x10, true))
def r07_Texts.f (k : Nat) (l0 : List ByteArray) (l1 : List ByteArray) (l2 : List ByteArray) : Option (List ByteArray × Bool) := (r07_Parts.f k l0 l1 l2).bind fun t389 => ((r07_Clean.f k t389).bind fun t392 => (if t392 = true then (r07_Texts.l0 k l1 l2 t389 ([] : List ByteArray) 0) else (some (([] : List ByteArray), false))))
theorem r07_Texts.mono_l : ∀ k, (∀ y0 y1 y2 y3 y4, LeO (r07_Texts.l0 k y0 y1 y2 y3 y4) (r07_Texts.l0 (k + 1) y0 y1 y2 y3 y4))
 | 0 => fun _ _ _ _ _ r h => by simp [r07_Texts.l0] at h
 | k + 1 => by
  have ih0 := r07_Texts.mono_l k
  ·intro y0 y1 y2 y3 y4
   unfold r07_Texts.l0
   repeat' first
   | (with_reducible exact ih0 _ _ _ _ _)
   | (with_reducible exact r07_Clean.mono _ _)
   | (with_reducible exact r07_Parts.mono _ _ _ _)
   | (with_reducible exact LeO.refl _)
   | (with_reducible exact LeO.none _)
   | (with_reducible refine LeO.ite ?_ ?_)
   | (with_reducible refine LeO.bind ?_ (fun _ => ?_))
   | exact ih0 _ _ _ _ _
   | exact r07_Clean.mono _ _
   | exact r07_Parts.mono _ _ _ _
   | exact LeO.none _
   | refine LeO.ite ?_ ?_
   | refine LeO.bind ?_ (fun _ => ?_)
theorem r07_Texts.mono : ∀ a0 a1 a2 k, LeO (r07_Texts.f k a0 a1 a2) (r07_Texts.f (k + 1) a0 a1 a2) := by
 intro a0 a1 a2 k
 have ih0 := r07_Texts.mono_l k
 unfold r07_Texts.f
 repeat' first
   | (with_reducible exact ih0 _ _ _ _ _)
   | (with_reducible exact r07_Clean.mono _ _)
   | (with_reducible exact r07_Parts.mono _ _ _ _)
   | (with_reducible exact LeO.refl _)
   | (with_reducible exact LeO.none _)
   | (with_reducible refine LeO.ite ?_ ?_)
   | (with_reducible refine LeO.bind ?_ (fun _ => ?_))
   | exact ih0 _ _ _ _ _
   | exact r07_Clean.mono _ _
   | exact r07_Parts.mono _ _ _ _
   | exact LeO.none _
   | refine LeO.ite ?_ ?_
   | refine LeO.bind ?_ (fun _ => ?_)
def r07_Texts.T10 : Bool × List (List Nat × List Nat) := (true, [([], []), ([], []), ([], []), ([], []), ([2, 3], [2, 3]), ([4], [4]), ([5], [5]), ([6], [6]), ([], []), ([], []), ([8, 9], [8, 9]), ([10], [10]), ([11], [11]), ([12], [12]), ([1, 7, 13], [1, 7, 13]), ([0, 14], [0, 14]), ([15, 15, 0, 1, 2, 3, 4, 5, 6, 7, 8, 9, 10, 11, 12, 13, 14, 15], [0, 15])])
def r07_Texts.B10 : List Nat := [0, 0, 0, 0, 12, 28, 60, 124, 0, 0, 768, 1792, 3840, 7936, 16382, 32767, 65535]
theorem r07_Texts.tab10 : rtab .any (opsOf Try.f19 10) = r07_Texts.T10 := by kernel_rfl
theorem r07_Texts.bits10 : waitsOk r07_Texts.T10.2 r07_Texts.B10 = true := by kernel_rfl
def r07_Texts.T11 : Bool × List (List Nat × List Nat) := (true, [([], []), ([], []), ([], []), ([], []), ([2, 3], [2, 3]), ([4], [4]), ([5], [5]), ([6], [6]), ([], []), ([], []), ([8, 9], [8, 9]), ([10], [10]), ([11], [11]), ([12], [12]), ([1, 7, 13], [1, 7, 13]), ([0, 14], [0, 14]), ([15, 15, 0, 1, 2, 3, 4, 5, 6, 7, 8, 9, 10, 11, 12, 13, 14, 15], [0, 15])])
def r07_Texts.B11 : List Nat := [0, 0, 0, 0, 12, 28, 60, 124, 0, 0, 768, 1792, 3840, 7936, 16382, 32767, 65535]
theorem r07_Texts.tab11 : rtab .any (opsOf Try.f19 11) = r07_Texts.T11 := by kernel_rfl
theorem r07_Texts.bits11 : waitsOk r07_Texts.T11.2 r07_Texts.B11 = true := by kernel_rfl
set_option maxHeartbeats 8000000 in
set_option maxRecDepth 100000 in
theorem r07_Texts.calls (k : Nat) (A0 : Option Addr) (c0 : Nat) (l0 : List ByteArray) (A1 : Option Addr) (c1 : Nat) (l1 : List ByteArray) (A2 : Option Addr) (c2 : Nat) (l2 : List ByteArray) (r1 : List ByteArray) (r2 : Bool) (w : World) (hr0 : Kd.C Kd.string w A0 l0.length l0) (hc0 : l0.length ≤ c0) (hr1 : Kd.C Kd.string w A1 l1.length l1) (hc1 : l1.length ≤ c1) (hr2 : Kd.C Kd.string w A2 l2.length l2) (hc2 : l2.length ≤ c2) (h : r07_Texts.f k l0 l1 l2 = some (r1, r2)) :
  Calls Try.prog 19 #[.slice A0 l0.length c0, .slice A1 l1.length c1, .slice A2 l2.length c2] w fun e w' => ∃ v0_ : Value, e = .returned (.tuple #[v0_, .bool r2]) ∧ Kd.R Kd.string 9 w' w.heap.size (fun _ => True) v0_ r1 ∧ Below w.heap.size w w' := by
 have HR0 := Zm hr0
 have HC0 := Zm hc0
 clear hr0 hc0
 have HR1 := Zm hr1
 have HC1 := Zm hc1
 clear hr1 hc1
 have HR2 := Zm hr2
 have HC2 := Zm hc2
 clear hr2 hc2
 have HB := Zm (Below.refl w.heap.size w)
 have H : ((r07_Parts.f k l0 l1 l2).bind fun t389 => ((r07_Clean.f k t389).bind fun t392 => (if t392 = true then (r07_Texts.l0 k l1 l2 t389 ([] : List ByteArray) 0) else (some (([] : List ByteArray), false))))) = some (r1, r2) := h
 clear h
 replace H := Option.bind_eq_some_iff.mp H
 obtain ⟨t389, A40, H⟩ := H
 replace H : ((r07_Clean.f k t389).bind fun t392 => (if t392 = true then (r07_Texts.l0 k l1 l2 t389 ([] : List ByteArray) 0) else (some (([] : List ByteArray), false)))) = some (r1, r2) := H
 have A4 := Zm A40
 clear A40
 replace H := Option.bind_eq_some_iff.mp H
 obtain ⟨t392, A50, H⟩ := H
 replace H : (if t392 = true then (r07_Texts.l0 k l1 l2 t389 ([] : List ByteArray) 0) else (some (([] : List ByteArray), false))) = some (r1, r2) := H
 have A5 := Zm A50
 clear A50
 by_cases c6 : t392 = true
 ·subst c6
  have H1 : (r07_Texts.l0 k l1 l2 t389 ([] : List ByteArray) 0) = some (r1, r2) := by rw [if_pos rfl] at H; exact H
  clear H
  have H := H1
  clear H1
  have H' := Zm H
  clear H
  go_enter Try.func19, Try.ntmps19
  go_wp2_with (first | ((with_reducible refine gate_callee (f := 21) rfl ?_); refine goesL_ (some 15) rfl rfl Try.func21 (by kernel_rfl) rfl #[.slice A0 l0.length c0, .slice A1 l1.length c1, .slice A2 l2.length c2] rfl (by (try simp only [List.map_toArray, List.map_cons, List.map_nil]); first | done | rfl | (simp only [List.length_drop, List.length_take]; rfl)) ?_; (with_reducible refine (r07_Parts.calls k (fun k_ => k_ < w.heap.size) _ _ l0 (fun k_ => k_ < w.heap.size) _ _ l1 (fun k_ => k_ < w.heap.size) _ _ l2 t389 _ ?side1 ?side2 ?side3 A4.out).mono ?_); (case side1 => exact Kd.V_mk HC0.out (Kd.F_below (Kd.C_F Kd.heap_string HR0.out) (by repeat (first | (with_reducible first | exact HB.out | apply below_alloc | apply Zd | apply below_drew1) | exact HB.out)))); (case side2 => exact Kd.V_mk HC1.out (Kd.F_below (Kd.C_F Kd.heap_string HR1.out) (by repeat (first | (with_reducible first | exact HB.out | apply below_alloc | apply Zd | apply below_drew1) | exact HB.out)))); (case side3 => exact Kd.V_mk HC2.out (Kd.F_below (Kd.C_F Kd.heap_string HR2.out) (by repeat (first | (with_reducible first | exact HB.out | apply below_alloc | apply Zd | apply below_drew1) | exact HB.out)))); rintro e w7 ⟨v390, rfl, ho0, hb⟩; refine ⟨_, rfl, ?_⟩; have n0_ := Zm (Kd.R_lower (Kd.R_mono (ok' := fun k_ => True) ho0 (fun _ hk_ => trivial)) (below_size (by repeat (first | (with_reducible first | exact HB.out | apply below_alloc | apply Zd | apply below_drew1) | exact HB.out)))); have n1_ := Zm (below_step (by repeat (first | (with_reducible first | exact HB.out | apply below_alloc | apply Zd | apply below_drew1) | exact HB.out)) hb); clear HB; have HO391 := n0_; have HB := n1_; clear n0_ n1_; (try clear hb); (try clear hb2); (try clear hk); (try clear hi); (try clear ho0); obtain ⟨Ao8, co8, eo8⟩ := Kd.R_slice HO391.out; subst eo8) | ((with_reducible refine gate_callee (f := 16) rfl ?_); refine goesL_ (some 17) rfl rfl Try.func16 (by kernel_rfl) rfl #[.slice Ao8 t389.length co8] rfl (by (try simp only [List.map_toArray, List.map_cons, List.map_nil]); first | done | rfl | (simp only [List.length_drop, List.length_take]; rfl)) ?_; (with_reducible refine (r07_Clean.calls k _ _ t389 true _ ?side1 ?side2 A5.out).mono ?_); (case side1 => repeat (first | exact (Kd.R_reads' HO391.out).2.2 | (with_reducible refine Kd.C_alloc ?_ _) | (with_reducible refine Kd.C_drewN ?_ _) | (with_reducible refine Kd.C_drew ?_))); (case side2 => exact (Kd.R_reads' HO391.out).2.1); rintro e w' ⟨rfl, ⟨nd, rfl⟩⟩; refine ⟨_, rfl, ?_⟩))
  go_loopg [10, 11] k (fun kq v10 v11 w' => ∃ (x10_1 : List ByteArray) (x11_1 : Int), v11 = .int .i64 x11_1 ∧ Aside0 (r07_Texts.l0 kq l1 l2 t389 x10_1 x11_1 = some (r1, r2)) ∧ Aside0 (kq ≤ k) ∧ Aside0 (Kd.R k41 41 w' w.heap.size (fun _ => True) (.slice Ao8 t389.length co8) t389) ∧ Aside0 (Kd.R Kd.string 9 w' w.heap.size (fun _ => True) v10 x10_1) ∧ Aside0 (Below w.heap.size w w'))
  case atStart => exact ⟨(([] : List ByteArray)), (0), (by first | rfl | (simp; done) | (simp [*]; done)), H', ⟨Nat.le_refl _⟩, ⟨by (with_reducible repeat (first | apply Kd.R_alloc | apply Kd.R_drewN | apply Kd.R_drew)); first | exact HO391.out | exact Kd.R_mono HO391.out (fun _ _ => trivial)⟩, ⟨by first | exact Kd.R_nil _ _ _ _ _ | exact Kd.N_nil _ _ _ _ _ | exact Kd.V_nil _ _ _ _ _ | exact Kd.Q_nil _ _ _ _ _ | exact Kd.S_nil _ _ _ _ _⟩, ⟨by repeat (first | (with_reducible first | exact HB.out | apply below_alloc | apply Zd | apply below_drew1) | exact HB.out)⟩⟩
  case round =>
   clear H'
   try clear c1
   try clear c2
   try clear p2
   try clear c6
   obtain ⟨x10_1, x11_1, rfl, HA, HK1, HO_8, HO_10, HB⟩ := hrel
   cases gk with
   | zero => exact absurd HA.out (by simp [r07_Texts.l0])
   | succ k1 =>
    have H := HA.out
    clear HA
    simp only [r07_Texts.l0] at H
    by_cases c9 : x11_1 < (t389.length : Int)
    ·rw [if_pos c9] at H
     have c9b0 : decide (x11_1 < (t389.length : Int)) = true := decide_eq_true c9
     clear c9
     by_cases c10 : 0 ≤ x11_1
     ·rw [if_pos c10] at H
      have c10b0 : decide (0 ≤ x11_1) = true := decide_eq_true c10
      clear c10
      by_cases c11 : ((rd_T41 t389 x11_1).f0) = 2
      ·rw [if_pos c11] at H
       have c11b0 : (((rd_T41 t389 x11_1).f0) == 2) = true := beq_iff_eq.mpr c11
       have c11b1 : (((rd_T41 t389 x11_1).f0) != 2) = false := bne_eq_false_iff_eq.mpr c11
       clear c11
       by_cases c12 : 0 ≤ ((rd_T41 t389 x11_1).f3.f0)
       ·rw [if_pos c12] at H
        have c12b0 := eq_true c12
        have c12b1 : decide (0 ≤ ((rd_T41 t389 x11_1).f3.f0)) = true := decide_eq_true c12
        clear c12
        by_cases c13 : ((rd_T41 t389 x11_1).f3.f0) ≤ ((rd_T41 t389 x11_1).f3.f1)
        ·rw [if_pos c13] at H
         have c13b0 := eq_true c13
         have c13b1 : decide (((rd_T41 t389 x11_1).f3.f0) ≤ ((rd_T41 t389 x11_1).f3.f1)) = true := decide_eq_true c13
         clear c13
         by_cases c14 : ((rd_T41 t389 x11_1).f3.f1) ≤ (l2.length : Int)
         ·rw [if_pos c14] at H
          have c14b0 := eq_true c14
          have c14b1 : decide (((rd_T41 t389 x11_1).f3.f1) ≤ (l2.length : Int)) = true := decide_eq_true c14
          clear c14
          by_cases c15 : x10_1.length + ((l2.take (((rd_T41 t389 x11_1).f3.f1) : Int).toNat).drop (((rd_T41 t389 x11_1).f3.f0) : Int).toNat).length < 8796093022208
          ·rw [if_pos c15] at H
           have LMc15 := Zm c15
           clear c15
           obtain ⟨y397, hy397⟩ : ∃ y_ : List ByteArray, y_ = (x10_1 ++ ((l2.take (((rd_T41 t389 x11_1).f3.f1) : Int).toNat).drop (((rd_T41 t389 x11_1).f3.f0) : Int).toNat)) := ⟨_, rfl⟩
           replace H : (r07_Texts.l0 k1 l1 l2 t389 y397 (wrap64 (x11_1 + 1))) = some (r1, r2) := by first | (rw [hy397]; with_reducible exact H) | (have H2_ := (Option.bind_some _ _).symm.trans H; rw [hy397]; with_reducible exact H2_) | (have H2_ := (Option.bind_some _ _).symm.trans H; with_reducible exact H2_) | with_reducible exact H | (rw [hy397]; exact H) | exact H
           have Ny397 := Zm hy397
           clear hy397
           have H' := Zm H
           clear H
           have p393 : 0 ≤ (x11_1 : Int) := Zo (by first | (with_reducible assumption) | assumption)
           have q393 : x11_1 < (t389.length : Int) := Zo (by first | (with_reducible assumption) | assumption)
           obtain ⟨ad393, e393, hx393_0, hx393_1, hx393_2, hx393_3, hx393_4, hx393_5, hx393_6⟩ := at_T41 (Kd.R_reads' HO_8.out).2.2 x11_1 p393 q393
           cases e393
           replace p393 := eq_true p393
           replace q393 := eq_true q393
           try go_wp2
           have n0_ := Zm (Kd.R_drew HO_8.out)
           have n1_ := Zm (Kd.R_drew HO_10.out)
           have n2_ := Zm (below_drew1 HB.out)
           clear HO_8
           clear HO_10
           clear HB
           have HO_8 := n0_
           have HO_10 := n1_
           have HB := n2_
           clear n0_ n1_ n2_
           have p394 : 0 ≤ (x11_1 : Int) := Zo (by first | (with_reducible assumption) | assumption)
           have q394 : x11_1 < (t389.length : Int) := Zo (by first | (with_reducible assumption) | assumption)
           obtain ⟨ad394, e394, hx394_0, hx394_1, hx394_2, hx394_3, hx394_4, hx394_5, hx394_6⟩ := at_T41 (Kd.R_reads' HO_8.out).2.2 x11_1 p394 q394
           obtain rfl : ad393 = ad394 := (by injection e394)
           replace p394 := eq_true p394
           replace q394 := eq_true q394
           have p395 : 0 ≤ (x11_1 : Int) := Zo (by first | (with_reducible assumption) | assumption)
           have q395 : x11_1 < (t389.length : Int) := Zo (by first | (with_reducible assumption) | assumption)
           obtain ⟨ad395, e395, hx395_0, hx395_1, hx395_2, hx395_3, hx395_4, hx395_5, hx395_6⟩ := at_T41 (Kd.R_reads' HO_8.out).2.2 x11_1 p395 q395
           obtain rfl : ad393 = ad395 := (by injection e395)
           replace p395 := eq_true p395
           replace q395 := eq_true q395
           obtain ⟨i017, hi017, _, hsz17, _⟩ := info_parts info9
           obtain ⟨A17, hcut17, hA17, hC17⟩ := print_mid_of (P := Try.prog) Value.string (⟨#[]⟩ : ByteArray) 32 9 .i64 .i64 Try.underlying32 hi017 hsz17 A2 c2 l2 ((rd_T41 t389 x11_1).f3.f0) ((rd_T41 t389 x11_1).f3.f1) (Zo (by first | (with_reducible assumption) | assumption)) (by first | omega | exact Zo (by first | (with_reducible assumption) | assumption)) (Zo (by first | (with_reducible assumption) | assumption)) HC2.out
           have HR396 := Zm (Kd.C_of_reads (h1 := fun _ => rfl) (hA17 _ (Kd.reads_of_C HR2.out)))
           have HC396 := Zm hC17
           clear hA17 hC17 hi017 hsz17
           refine start_ (n := 17) (S := fun w' => w'.cell? (ad393.add ((x11_1).toNat * 7)) = some (.int .i64 ((rd_T41 t389 x11_1).f0)) ∧ w'.cell? ⟨(ad393.add ((x11_1).toNat * 7)).block, (ad393.add ((x11_1).toNat * 7)).off + 1, none⟩ = some (.int .i64 ((rd_T41 t389 x11_1).f1.f0)) ∧ w'.cell? ⟨(ad393.add ((x11_1).toNat * 7)).block, (ad393.add ((x11_1).toNat * 7)).off + 2, none⟩ = some (.int .i64 ((rd_T41 t389 x11_1).f1.f1)) ∧ w'.cell? ⟨(ad393.add ((x11_1).toNat * 7)).block, (ad393.add ((x11_1).toNat * 7)).off + 3, none⟩ = some (.int .i64 ((rd_T41 t389 x11_1).f2.f0)) ∧ w'.cell? ⟨(ad393.add ((x11_1).toNat * 7)).block, (ad393.add ((x11_1).toNat * 7)).off + 4, none⟩ = some (.int .i64 ((rd_T41 t389 x11_1).f2.f1)) ∧ w'.cell? ⟨(ad393.add ((x11_1).toNat * 7)).block, (ad393.add ((x11_1).toNat * 7)).off + 5, none⟩ = some (.int .i64 ((rd_T41 t389 x11_1).f3.f0)) ∧ w'.cell? ⟨(ad393.add ((x11_1).toNat * 7)).block, (ad393.add ((x11_1).toNat * 7)).off + 6, none⟩ = some (.int .i64 ((rd_T41 t389 x11_1).f3.f1)) ∧ w'.cell? (ad393.add ((x11_1).toNat * 7)) = some (.int .i64 ((rd_T41 t389 x11_1).f0)) ∧ w'.cell? ⟨(ad393.add ((x11_1).toNat * 7)).block, (ad393.add ((x11_1).toNat * 7)).off + 1, none⟩ = some (.int .i64 ((rd_T41 t389 x11_1).f1.f0)) ∧ w'.cell? ⟨(ad393.add ((x11_1).toNat * 7)).block, (ad393.add ((x11_1).toNat * 7)).off + 2, none⟩ = some (.int .i64 ((rd_T41 t389 x11_1).f1.f1)) ∧ w'.cell? ⟨(ad393.add ((x11_1).toNat * 7)).block, (ad393.add ((x11_1).toNat * 7)).off + 3, none⟩ = some (.int .i64 ((rd_T41 t389 x11_1).f2.f0)) ∧ w'.cell? ⟨(ad393.add ((x11_1).toNat * 7)).block, (ad393.add ((x11_1).toNat * 7)).off + 4, none⟩ = some (.int .i64 ((rd_T41 t389 x11_1).f2.f1)) ∧ w'.cell? ⟨(ad393.add ((x11_1).toNat * 7)).block, (ad393.add ((x11_1).toNat * 7)).off + 5, none⟩ = some (.int .i64 ((rd_T41 t389 x11_1).f3.f0)) ∧ w'.cell? ⟨(ad393.add ((x11_1).toNat * 7)).block, (ad393.add ((x11_1).toNat * 7)).off + 6, none⟩ = some (.int .i64 ((rd_T41 t389 x11_1).f3.f1))) (ds := [15]) #[false, false, false, false, false, false, false, false, false, false, false, false, false, false, false, false, false] (by kernel_rfl) rfl rfl ⟨hx394_0, hx394_1, hx394_2, hx394_3, hx394_4, hx394_5, hx394_6, hx395_0, hx395_1, hx395_2, hx395_3, hx395_4, hx395_5, hx395_6⟩ (fun hHeld => ?_); refine with_tabW r07_Texts.tab10 r07_Texts.bits10 (fun HT_ HW_ => ?_)
           generalize wr.drew = w16 at HO_8 HO_10 HB HR396 hx394_0 hx394_1 hx394_2 hx394_3 hx394_4 hx394_5 hx394_6 hx395_0 hx395_1 hx395_2 hx395_3 hx395_4 hx395_5 hx395_6 hHeld ⊢
           refine pure_ (i := 0) (N := some 32) (v := ?_) (a' := ?_) #[true, false, false, false, false, false, false, false, false, false, false, false, false, false, false, false, false] rfl rfl (any_of HT_.out (by kernel_rfl)) (fun _ _ _ h => h) (Or.inl ⟨by rfl, ?_⟩) ?_ ?_
           rotate_left
           ·intro w'
            go_simp
            with_reducible rfl
           rotate_left
           ·simp only [Act.put, List.setIfInBounds_toArray, List.set_cons_zero, List.set_cons_succ, i64_w, i32_w]
            rfl
           refine pure_ (i := 1) (N := some 33) (v := ?_) (a' := ?_) #[true, true, false, false, false, false, false, false, false, false, false, false, false, false, false, false, false] rfl rfl (any_of HT_.out (by kernel_rfl)) (fun _ _ _ h => h) (Or.inl ⟨by rfl, ?_⟩) ?_ ?_
           rotate_left
           ·intro w'
            go_simp
            with_reducible rfl
           rotate_left
           ·simp only [Act.put, List.setIfInBounds_toArray, List.set_cons_zero, List.set_cons_succ, i64_w, i32_w]
            rfl
           refine pure_ (i := 2) (N := some 34) (v := ?_) (a' := ?_) #[true, true, true, false, false, false, false, false, false, false, false, false, false, false, false, false, false] rfl rfl (any_of HT_.out (by kernel_rfl)) (fun _ _ _ h => h) (Or.inl ⟨by rfl, ?_⟩) ?_ ?_
           rotate_left
           ·intro w'
            go_simp
            with_reducible rfl
           rotate_left
           ·simp only [Act.put, List.setIfInBounds_toArray, List.set_cons_zero, List.set_cons_succ, i64_w, i32_w]
            rfl
           refine pure_ (i := 3) (N := some 35) (v := ?_) (a' := ?_) #[true, true, true, true, false, false, false, false, false, false, false, false, false, false, false, false, false] rfl rfl (any_of HT_.out (by kernel_rfl)) (fun _ _ _ h => h) (Or.inl ⟨by rfl, ?_⟩) ?_ ?_
           rotate_left
           ·intro w'
            go_simp
            with_reducible rfl
           rotate_left
           ·simp only [Act.put, List.setIfInBounds_toArray, List.set_cons_zero, List.set_cons_succ, i64_w, i32_w]
            rfl
           refine pure_ (i := 4) (N := some 36) (v := ?_) (a' := ?_) #[true, true, true, true, true, false, false, false, false, false, false, false, false, false, false, false, false] rfl rfl (any_of HT_.out (by kernel_rfl)) (fun _ _ _ h => h) (Or.inl ⟨by rfl, ?_⟩) ?_ ?_
           rotate_left
           ·intro w'
            go_simp
            with_reducible rfl
           rotate_left
           ·simp only [Act.put, List.setIfInBounds_toArray, List.set_cons_zero, List.set_cons_succ, i64_w, i32_w]
            rfl
           refine pure_ (i := 5) (N := some 37) (v := ?_) (a' := ?_) #[true, true, true, true, true, true, false, false, false, false, false, false, false, false, false, false, false] rfl rfl (any_of HT_.out (by kernel_rfl)) (fun _ _ _ h => h) (Or.inl ⟨by rfl, ?_⟩) ?_ ?_
           rotate_left
           ·intro w'
            go_simp
            with_reducible rfl
           rotate_left
           ·simp only [Act.put, List.setIfInBounds_toArray, List.set_cons_zero, List.set_cons_succ, i64_w, i32_w]
            rfl
           refine pure_ (i := 6) (N := some 38) (v := ?_) (a' := ?_) #[true, true, true, true, true, true, true, false, false, false, false, false, false, false, false, false, false] rfl rfl (any_of HT_.out (by kernel_rfl)) (fun _ _ _ h => h) (Or.inl ⟨by rfl, ?_⟩) ?_ ?_
           rotate_left
           ·intro w'
            go_simp
            with_reducible rfl
           rotate_left
           ·simp only [Act.put, List.setIfInBounds_toArray, List.set_cons_zero, List.set_cons_succ, i64_w, i32_w]
            rfl
           refine pure_ (i := 8) (N := some 40) (v := ?_) (a' := ?_) #[true, true, true, true, true, true, true, false, true, false, false, false, false, false, false, false, false] rfl rfl (any_of HT_.out (by kernel_rfl)) (fun _ _ _ h => h) (Or.inl ⟨by rfl, ?_⟩) ?_ ?_
           rotate_left
           ·intro w'
            go_simp
            with_reducible rfl
           rotate_left
           ·simp only [Act.put, List.setIfInBounds_toArray, List.set_cons_zero, List.set_cons_succ, i64_w, i32_w]
            rfl
           refine pure_ (i := 9) (N := some 41) (v := ?_) (a' := ?_) #[true, true, true, true, true, true, true, false, true, true, false, false, false, false, false, false, false] rfl rfl (any_of HT_.out (by kernel_rfl)) (fun _ _ _ h => h) (Or.inl ⟨by rfl, ?_⟩) ?_ ?_
           rotate_left
           ·intro w'
            go_simp
            with_reducible rfl
           rotate_left
           ·simp only [Act.put, List.setIfInBounds_toArray, List.set_cons_zero, List.set_cons_succ, i64_w, i32_w]
            rfl
           refine pure_ (i := 10) (N := some 42) (v := ?_) (a' := ?_) #[true, true, true, true, true, true, true, false, true, true, true, false, false, false, false, false, false] rfl rfl (any_of HT_.out (by kernel_rfl)) (fun _ _ _ h => h) (Or.inl ⟨by rfl, ?_⟩) ?_ ?_
           rotate_left
           ·intro w'
            go_simp
            with_reducible rfl
           rotate_left
           ·simp only [Act.put, List.setIfInBounds_toArray, List.set_cons_zero, List.set_cons_succ, i64_w, i32_w]
            rfl
           refine pure_ (i := 11) (N := some 43) (v := ?_) (a' := ?_) #[true, true, true, true, true, true, true, false, true, true, true, true, false, false, false, false, false] rfl rfl (any_of HT_.out (by kernel_rfl)) (fun _ _ _ h => h) (Or.inl ⟨by rfl, ?_⟩) ?_ ?_
           rotate_left
           ·intro w'
            go_simp
            with_reducible rfl
           rotate_left
           ·simp only [Act.put, List.setIfInBounds_toArray, List.set_cons_zero, List.set_cons_succ, i64_w, i32_w]
            rfl
           refine pure_ (i := 12) (N := some 44) (v := ?_) (a' := ?_) #[true, true, true, true, true, true, true, false, true, true, true, true, true, false, false, false, false] rfl rfl (any_of HT_.out (by kernel_rfl)) (fun _ _ _ h => h) (Or.inl ⟨by rfl, ?_⟩) ?_ ?_
           rotate_left
           ·intro w'
            go_simp
            with_reducible rfl
           rotate_left
           ·simp only [Act.put, List.setIfInBounds_toArray, List.set_cons_zero, List.set_cons_succ, i64_w, i32_w]
            rfl
           refine take_ (i := 7) (N := some 39) (v := ?_) (a' := ?_) #[true, true, true, true, true, true, true, true, true, true, true, true, true, false, false, false, false] rfl rfl (take_ofW HT_.out HW_.out (by kernel_rfl)) (fun _ _ _ h => h) (Or.inl ⟨by rfl, ?_⟩) hHeld ?_ ?_
           rotate_left
           ·rintro w' ⟨s0, s1, s2, s3, s4, s5, s6, s7, s8, s9, s10, s11, s12, s13⟩
            go_simp
            with_reducible rfl
           rotate_left
           ·simp only [Act.put, List.setIfInBounds_toArray, List.set_cons_zero, List.set_cons_succ, i64_w, i32_w]
            rfl
           refine take_ (i := 13) (N := some 45) (v := ?_) (a' := ?_) #[true, true, true, true, true, true, true, true, true, true, true, true, true, true, false, false, false] rfl rfl (take_ofW HT_.out HW_.out (by kernel_rfl)) (fun _ _ _ h => h) (Or.inl ⟨by rfl, ?_⟩) hHeld ?_ ?_
           rotate_left
           ·rintro w' ⟨s0, s1, s2, s3, s4, s5, s6, s7, s8, s9, s10, s11, s12, s13⟩
            go_simp
            with_reducible rfl
           rotate_left
           ·simp only [Act.put, List.setIfInBounds_toArray, List.set_cons_zero, List.set_cons_succ, i64_w, i32_w]
            rfl
           refine pure_ (i := 14) (N := some 46) (v := ?_) (a' := ?_) #[true, true, true, true, true, true, true, true, true, true, true, true, true, true, true, false, false] rfl rfl (any_of HT_.out (by kernel_rfl)) (fun _ _ _ h => h) (Or.inl ⟨by rfl, ?_⟩) ?_ ?_
           rotate_left
           ·intro w'
            go_simp
            with_reducible rfl
           rotate_left
           ·simp only [Act.put, List.setIfInBounds_toArray, List.set_cons_zero, List.set_cons_succ, i64_w, i32_w]
            rfl
           refine last_ (i := 15) (N := some 47) #[true, true, true, true, true, true, true, true, true, true, true, true, true, true, true, true, false] rfl rfl (one_of HT_.out (by kernel_rfl)) (by decide) (fun K hK => ?_)
           refine Kd.R_append_rows_step Kd.string (w0 := w) w.heap.size (by rfl) (.tmp 32) (.tmp 46) 32 9 (.string ⟨#[]⟩) 16 rfl Try.underlying32 info9 rfl (by decide) (by omega) u10 x10_1 ((l2.take (((rd_T41 t389 x11_1).f3.f1) : Int).toNat).drop (((rd_T41 t389 x11_1).f3.f0) : Int).toNat) _ _ _ (fun _ => True) (fun _ => False) rfl rfl ?aO ?aR (fun _ _ h => h) (fun _ h => h.elim) ?aF ?aB ?aS ?aL ?_
           (case aR => first | (rw [← show ((l2.take (((rd_T41 t389 x11_1).f3.f1) : Int).toNat).drop (((rd_T41 t389 x11_1).f3.f0) : Int).toNat).length = (((rd_T41 t389 x11_1).f3.f1).toNat - ((rd_T41 t389 x11_1).f3.f0).toNat) from (by rw [List.length_drop, List.length_take]; have h_ : (((rd_T41 t389 x11_1).f3.f1) : Int) ≤ (l2.length : Int) := Zo (by first | (with_reducible assumption) | assumption); omega)]; repeat (first | exact (Kd.C_below HR396.out HB.out) | (with_reducible refine Kd.C_alloc ?_ _) | (with_reducible refine Kd.C_drewN ?_ _) | (with_reducible refine Kd.C_drew ?_))) | (repeat (first | exact (Kd.C_below HR396.out HB.out) | (with_reducible refine Kd.C_alloc ?_ _) | (with_reducible refine Kd.C_drewN ?_ _) | (with_reducible refine Kd.C_drew ?_))))
           (case aB => exact (by repeat (first | (with_reducible first | exact HB.out | apply below_alloc | apply Zd | apply below_drew1) | exact HB.out)))
           (case aF => exact (fun _ _ => trivial))
           (case aO => exact (by (with_reducible repeat (first | apply Kd.R_alloc | apply Kd.R_drewN | apply Kd.R_drew)); exact HO_10.out))
           (case aS => exact (below_size (by repeat (first | (with_reducible first | exact HB.out | apply below_alloc | apply Zd | apply below_drew1) | exact HB.out))))
           (case aL => have := LMc15.out; have hlx_ := (show ((l2.take (((rd_T41 t389 x11_1).f3.f1) : Int).toNat).drop (((rd_T41 t389 x11_1).f3.f0) : Int).toNat).length = (((rd_T41 t389 x11_1).f3.f1).toNat - ((rd_T41 t389 x11_1).f3.f0).toNat) from (by rw [List.length_drop, List.length_take]; have h_ : (((rd_T41 t389 x11_1).f3.f1) : Int) ≤ (l2.length : Int) := Zo (by first | (with_reducible assumption) | assumption); omega)); omega)
           intro v398 w18 ho hb hg hat
           rw [← Ny397.out] at ho
           have n0_ := Zm (Kd.R_over' (by (with_reducible repeat (first | apply Kd.R_alloc | apply Kd.R_drewN | apply Kd.R_drew)); exact HO_8.out) (Kd.R_typed (by (with_reducible repeat (first | apply Kd.R_alloc | apply Kd.R_drewN | apply Kd.R_drew)); exact HO_10.out)) (by decide) hg)
           have n1_ := Zm (hb)
           have n2_ := Zm (ho)
           clear HO_8
           clear HB
           clear HO_10
           have HO_8 := n0_
           have HB := n1_
           have HO399 := n2_
           clear n0_ n1_ n2_
           clear ho hb hg hat
           refine hK.out _ _ ?_
           clear hK K
           refine norm_ (a' := ?_) ?_ ?_
           rotate_left
           ·show Act.put _ (some 47) _ = _
            simp only [Act.put, List.setIfInBounds_toArray, List.set_cons_zero, List.set_cons_succ, i64_w, i32_w]
            rfl
           refine pure_ (i := 16) (N := some 10) (v := ?_) (a' := ?_) #[true, true, true, true, true, true, true, true, true, true, true, true, true, true, true, true, true] rfl rfl (any_of HT_.out (by kernel_rfl)) (fun _ _ _ h => h) (Or.inl ⟨by rfl, ?_⟩) ?_ ?_
           rotate_left
           ·intro w'
            go_simp
            with_reducible rfl
           rotate_left
           ·simp only [Act.put, List.setIfInBounds_toArray, List.set_cons_zero, List.set_cons_succ, i64_w, i32_w]
            rfl
           refine done_ (done_of HT_.out (by kernel_rfl)) ?_
           try go_wp2
           go_roundg k1
           case measure => have := HK1.out; omega
           case rel => exact ⟨(y397), (wrap64 (x11_1 + 1)), (by first | rfl | (simp; done) | (simp [*]; done)), H', ⟨by have := HK1.out; omega⟩, ⟨by (with_reducible repeat (first | apply Kd.R_alloc | apply Kd.R_drewN | apply Kd.R_drew)); first | exact HO_8.out | exact Kd.R_mono HO_8.out (fun _ _ => trivial)⟩, ⟨by (with_reducible repeat (first | apply Kd.R_alloc | apply Kd.R_drewN | apply Kd.R_drew)); first | exact HO399.out | exact Kd.R_mono HO399.out (fun _ _ => trivial)⟩, ⟨by repeat (first | (with_reducible first | exact HB.out | apply below_alloc | apply Zd | apply below_drew1) | exact HB.out)⟩⟩
          ·rw [if_neg c15] at H
           exact absurd H (by simp)
         ·rw [if_neg c14] at H
          exact absurd H (by simp)
        ·rw [if_neg c13] at H
         exact absurd H (by simp)
       ·rw [if_neg c12] at H
        exact absurd H (by simp)
      ·rw [if_neg c11] at H
       have c11b0 : (((rd_T41 t389 x11_1).f0) == 2) = false := beq_eq_false_iff_ne.mpr c11
       have c11b1 : (((rd_T41 t389 x11_1).f0) != 2) = true := bne_iff_ne.mpr c11
       by_cases c19 : 0 ≤ ((rd_T41 t389 x11_1).f2.f0)
       ·rw [if_pos c19] at H
        have c19b0 := eq_true c19
        have c19b1 : decide (0 ≤ ((rd_T41 t389 x11_1).f2.f0)) = true := decide_eq_true c19
        clear c19
        by_cases c20 : ((rd_T41 t389 x11_1).f2.f0) ≤ ((rd_T41 t389 x11_1).f2.f1)
        ·rw [if_pos c20] at H
         have c20b0 := eq_true c20
         have c20b1 : decide (((rd_T41 t389 x11_1).f2.f0) ≤ ((rd_T41 t389 x11_1).f2.f1)) = true := decide_eq_true c20
         clear c20
         by_cases c21 : ((rd_T41 t389 x11_1).f2.f1) ≤ (l1.length : Int)
         ·rw [if_pos c21] at H
          have c21b0 := eq_true c21
          have c21b1 : decide (((rd_T41 t389 x11_1).f2.f1) ≤ (l1.length : Int)) = true := decide_eq_true c21
          clear c21
          by_cases c22 : x10_1.length + ((l1.take (((rd_T41 t389 x11_1).f2.f1) : Int).toNat).drop (((rd_T41 t389 x11_1).f2.f0) : Int).toNat).length < 8796093022208
          ·rw [if_pos c22] at H
           have LMc22 := Zm c22
           clear c22
           obtain ⟨y403, hy403⟩ : ∃ y_ : List ByteArray, y_ = (x10_1 ++ ((l1.take (((rd_T41 t389 x11_1).f2.f1) : Int).toNat).drop (((rd_T41 t389 x11_1).f2.f0) : Int).toNat)) := ⟨_, rfl⟩
           replace H : (r07_Texts.l0 k1 l1 l2 t389 y403 (wrap64 (x11_1 + 1))) = some (r1, r2) := by first | (rw [hy403]; with_reducible exact H) | (have H2_ := (Option.bind_some _ _).symm.trans H; rw [hy403]; with_reducible exact H2_) | (have H2_ := (Option.bind_some _ _).symm.trans H; with_reducible exact H2_) | with_reducible exact H | (rw [hy403]; exact H) | exact H
           have Ny403 := Zm hy403
           clear hy403
           have H' := Zm H
           clear H
           have p393 : 0 ≤ (x11_1 : Int) := Zo (by first | (with_reducible assumption) | assumption)
           have q393 : x11_1 < (t389.length : Int) := Zo (by first | (with_reducible assumption) | assumption)
           obtain ⟨ad393, e393, hx393_0, hx393_1, hx393_2, hx393_3, hx393_4, hx393_5, hx393_6⟩ := at_T41 (Kd.R_reads' HO_8.out).2.2 x11_1 p393 q393
           cases e393
           replace p393 := eq_true p393
           replace q393 := eq_true q393
           try go_wp2
           have n0_ := Zm (Kd.R_drew HO_8.out)
           have n1_ := Zm (Kd.R_drew HO_10.out)
           have n2_ := Zm (below_drew1 HB.out)
           clear HO_8
           clear HO_10
           clear HB
           have HO_8 := n0_
           have HO_10 := n1_
           have HB := n2_
           clear n0_ n1_ n2_
           have p400 : 0 ≤ (x11_1 : Int) := Zo (by first | (with_reducible assumption) | assumption)
           have q400 : x11_1 < (t389.length : Int) := Zo (by first | (with_reducible assumption) | assumption)
           obtain ⟨ad400, e400, hx400_0, hx400_1, hx400_2, hx400_3, hx400_4, hx400_5, hx400_6⟩ := at_T41 (Kd.R_reads' HO_8.out).2.2 x11_1 p400 q400
           obtain rfl : ad393 = ad400 := (by injection e400)
           replace p400 := eq_true p400
           replace q400 := eq_true q400
           have p401 : 0 ≤ (x11_1 : Int) := Zo (by first | (with_reducible assumption) | assumption)
           have q401 : x11_1 < (t389.length : Int) := Zo (by first | (with_reducible assumption) | assumption)
           obtain ⟨ad401, e401, hx401_0, hx401_1, hx401_2, hx401_3, hx401_4, hx401_5, hx401_6⟩ := at_T41 (Kd.R_reads' HO_8.out).2.2 x11_1 p401 q401
           obtain rfl : ad393 = ad401 := (by injection e401)
           replace p401 := eq_true p401
           replace q401 := eq_true q401
           obtain ⟨i024, hi024, _, hsz24, _⟩ := info_parts info9
           obtain ⟨A24, hcut24, hA24, hC24⟩ := print_mid_of (P := Try.prog) Value.string (⟨#[]⟩ : ByteArray) 32 9 .i64 .i64 Try.underlying32 hi024 hsz24 A1 c1 l1 ((rd_T41 t389 x11_1).f2.f0) ((rd_T41 t389 x11_1).f2.f1) (Zo (by first | (with_reducible assumption) | assumption)) (by first | omega | exact Zo (by first | (with_reducible assumption) | assumption)) (Zo (by first | (with_reducible assumption) | assumption)) HC1.out
           have HR402 := Zm (Kd.C_of_reads (h1 := fun _ => rfl) (hA24 _ (Kd.reads_of_C HR1.out)))
           have HC402 := Zm hC24
           clear hA24 hC24 hi024 hsz24
           refine start_ (n := 17) (S := fun w' => w'.cell? (ad393.add ((x11_1).toNat * 7)) = some (.int .i64 ((rd_T41 t389 x11_1).f0)) ∧ w'.cell? ⟨(ad393.add ((x11_1).toNat * 7)).block, (ad393.add ((x11_1).toNat * 7)).off + 1, none⟩ = some (.int .i64 ((rd_T41 t389 x11_1).f1.f0)) ∧ w'.cell? ⟨(ad393.add ((x11_1).toNat * 7)).block, (ad393.add ((x11_1).toNat * 7)).off + 2, none⟩ = some (.int .i64 ((rd_T41 t389 x11_1).f1.f1)) ∧ w'.cell? ⟨(ad393.add ((x11_1).toNat * 7)).block, (ad393.add ((x11_1).toNat * 7)).off + 3, none⟩ = some (.int .i64 ((rd_T41 t389 x11_1).f2.f0)) ∧ w'.cell? ⟨(ad393.add ((x11_1).toNat * 7)).block, (ad393.add ((x11_1).toNat * 7)).off + 4, none⟩ = some (.int .i64 ((rd_T41 t389 x11_1).f2.f1)) ∧ w'.cell? ⟨(ad393.add ((x11_1).toNat * 7)).block, (ad393.add ((x11_1).toNat * 7)).off + 5, none⟩ = some (.int .i64 ((rd_T41 t389 x11_1).f3.f0)) ∧ w'.cell? ⟨(ad393.add ((x11_1).toNat * 7)).block, (ad393.add ((x11_1).toNat * 7)).off + 6, none⟩ = some (.int .i64 ((rd_T41 t389 x11_1).f3.f1)) ∧ w'.cell? (ad393.add ((x11_1).toNat * 7)) = some (.int .i64 ((rd_T41 t389 x11_1).f0)) ∧ w'.cell? ⟨(ad393.add ((x11_1).toNat * 7)).block, (ad393.add ((x11_1).toNat * 7)).off + 1, none⟩ = some (.int .i64 ((rd_T41 t389 x11_1).f1.f0)) ∧ w'.cell? ⟨(ad393.add ((x11_1).toNat * 7)).block, (ad393.add ((x11_1).toNat * 7)).off + 2, none⟩ = some (.int .i64 ((rd_T41 t389 x11_1).f1.f1)) ∧ w'.cell? ⟨(ad393.add ((x11_1).toNat * 7)).block, (ad393.add ((x11_1).toNat * 7)).off + 3, none⟩ = some (.int .i64 ((rd_T41 t389 x11_1).f2.f0)) ∧ w'.cell? ⟨(ad393.add ((x11_1).toNat * 7)).block, (ad393.add ((x11_1).toNat * 7)).off + 4, none⟩ = some (.int .i64 ((rd_T41 t389 x11_1).f2.f1)) ∧ w'.cell? ⟨(ad393.add ((x11_1).toNat * 7)).block, (ad393.add ((x11_1).toNat * 7)).off + 5, none⟩ = some (.int .i64 ((rd_T41 t389 x11_1).f3.f0)) ∧ w'.cell? ⟨(ad393.add ((x11_1).toNat * 7)).block, (ad393.add ((x11_1).toNat * 7)).off + 6, none⟩ = some (.int .i64 ((rd_T41 t389 x11_1).f3.f1))) (ds := [15]) #[false, false, false, false, false, false, false, false, false, false, false, false, false, false, false, false, false] (by kernel_rfl) rfl rfl ⟨hx400_0, hx400_1, hx400_2, hx400_3, hx400_4, hx400_5, hx400_6, hx401_0, hx401_1, hx401_2, hx401_3, hx401_4, hx401_5, hx401_6⟩ (fun hHeld => ?_); refine with_tabW r07_Texts.tab11 r07_Texts.bits11 (fun HT_ HW_ => ?_)
           generalize wr.drew = w23 at HO_8 HO_10 HB HR402 hx400_0 hx400_1 hx400_2 hx400_3 hx400_4 hx400_5 hx400_6 hx401_0 hx401_1 hx401_2 hx401_3 hx401_4 hx401_5 hx401_6 hHeld ⊢
           refine pure_ (i := 0) (N := some 48) (v := ?_) (a' := ?_) #[true, false, false, false, false, false, false, false, false, false, false, false, false, false, false, false, false] rfl rfl (any_of HT_.out (by kernel_rfl)) (fun _ _ _ h => h) (Or.inl ⟨by rfl, ?_⟩) ?_ ?_
           rotate_left
           ·intro w'
            go_simp
            with_reducible rfl
           rotate_left
           ·simp only [Act.put, List.setIfInBounds_toArray, List.set_cons_zero, List.set_cons_succ, i64_w, i32_w]
            rfl
           refine pure_ (i := 1) (N := some 49) (v := ?_) (a' := ?_) #[true, true, false, false, false, false, false, false, false, false, false, false, false, false, false, false, false] rfl rfl (any_of HT_.out (by kernel_rfl)) (fun _ _ _ h => h) (Or.inl ⟨by rfl, ?_⟩) ?_ ?_
           rotate_left
           ·intro w'
            go_simp
            with_reducible rfl
           rotate_left
           ·simp only [Act.put, List.setIfInBounds_toArray, List.set_cons_zero, List.set_cons_succ, i64_w, i32_w]
            rfl
           refine pure_ (i := 2) (N := some 50) (v := ?_) (a' := ?_) #[true, true, true, false, false, false, false, false, false, false, false, false, false, false, false, false, false] rfl rfl (any_of HT_.out (by kernel_rfl)) (fun _ _ _ h => h) (Or.inl ⟨by rfl, ?_⟩) ?_ ?_
           rotate_left
           ·intro w'
            go_simp
            with_reducible rfl
           rotate_left
           ·simp only [Act.put, List.setIfInBounds_toArray, List.set_cons_zero, List.set_cons_succ, i64_w, i32_w]
            rfl
           refine pure_ (i := 3) (N := some 51) (v := ?_) (a' := ?_) #[true, true, true, true, false, false, false, false, false, false, false, false, false, false, false, false, false] rfl rfl (any_of HT_.out (by kernel_rfl)) (fun _ _ _ h => h) (Or.inl ⟨by rfl, ?_⟩) ?_ ?_
           rotate_left
           ·intro w'
            go_simp
            with_reducible rfl
           rotate_left
           ·simp only [Act.put, List.setIfInBounds_toArray, List.set_cons_zero, List.set_cons_succ, i64_w, i32_w]
            rfl
           refine pure_ (i := 4) (N := some 52) (v := ?_) (a' := ?_) #[true, true, true, true, true, false, false, false, false, false, false, false, false, false, false, false, false] rfl rfl (any_of HT_.out (by kernel_rfl)) (fun _ _ _ h => h) (Or.inl ⟨by rfl, ?_⟩) ?_ ?_
           rotate_left
           ·intro w'
            go_simp
            with_reducible rfl
           rotate_left
           ·simp only [Act.put, List.setIfInBounds_toArray, List.set_cons_zero, List.set_cons_succ, i64_w, i32_w]
            rfl
           refine pure_ (i := 5) (N := some 53) (v := ?_) (a' := ?_) #[true, true, true, true, true, true, false, false, false, false, false, false, false, false, false, false, false] rfl rfl (any_of HT_.out (by kernel_rfl)) (fun _ _ _ h => h) (Or.inl ⟨by rfl, ?_⟩) ?_ ?_
           rotate_left
           ·intro w'
            go_simp
            with_reducible rfl
           rotate_left
           ·simp only [Act.put, List.setIfInBounds_toArray, List.set_cons_zero, List.set_cons_succ, i64_w, i32_w]
            rfl
           refine pure_ (i := 6) (N := some 54) (v := ?_) (a' := ?_) #[true, true, true, true, true, true, true, false, false, false, false, false, false, false, false, false, false] rfl rfl (any_of HT_.out (by kernel_rfl)) (fun _ _ _ h => h) (Or.inl ⟨by rfl, ?_⟩) ?_ ?_
           rotate_left
           ·intro w'
            go_simp
            with_reducible rfl
           rotate_left
           ·simp only [Act.put, List.setIfInBounds_toArray, List.set_cons_zero, List.set_cons_succ, i64_w, i32_w]
            rfl
           refine pure_ (i := 8) (N := some 56) (v := ?_) (a' := ?_) #[true, true, true, true, true, true, true, false, true, false, false, false, false, false, false, false, false] rfl rfl (any_of HT_.out (by kernel_rfl)) (fun _ _ _ h => h) (Or.inl ⟨by rfl, ?_⟩) ?_ ?_
           rotate_left
           ·intro w'
            go_simp
            with_reducible rfl
           rotate_left
           ·simp only [Act.put, List.setIfInBounds_toArray, List.set_cons_zero, List.set_cons_succ, i64_w, i32_w]
            rfl
           refine pure_ (i := 9) (N := some 57) (v := ?_) (a' := ?_) #[true, true, true, true, true, true, true, false, true, true, false, false, false, false, false, false, false] rfl rfl (any_of HT_.out (by kernel_rfl)) (fun _ _ _ h => h) (Or.inl ⟨by rfl, ?_⟩) ?_ ?_
           rotate_left
           ·intro w'
            go_simp
            with_reducible rfl
           rotate_left
           ·simp only [Act.put, List.setIfInBounds_toArray, List.set_cons_zero, List.set_cons_succ, i64_w, i32_w]
            rfl
           refine pure_ (i := 10) (N := some 58) (v := ?_) (a' := ?_) #[true, true, true, true, true, true, true, false, true, true, true, false, false, false, false, false, false] rfl rfl (any_of HT_.out (by kernel_rfl)) (fun _ _ _ h => h) (Or.inl ⟨by rfl, ?_⟩) ?_ ?_
           rotate_left
           ·intro w'
            go_simp
            with_reducible rfl
           rotate_left
           ·simp only [Act.put, List.setIfInBounds_toArray, List.set_cons_zero, List.set_cons_succ, i64_w, i32_w]
            rfl
           refine pure_ (i := 11) (N := some 59) (v := ?_) (a' := ?_) #[true, true, true, true, true, true, true, false, true, true, true, true, false, false, false, false, false] rfl rfl (any_of HT_.out (by kernel_rfl)) (fun _ _ _ h => h) (Or.inl ⟨by rfl, ?_⟩) ?_ ?_
           rotate_left
           ·intro w'
            go_simp
            with_reducible rfl
           rotate_left
           ·simp only [Act.put, List.setIfInBounds_toArray, List.set_cons_zero, List.set_cons_succ, i64_w, i32_w]
            rfl
           refine pure_ (i := 12) (N := some 60) (v := ?_) (a' := ?_) #[true, true, true, true, true, true, true, false, true, true, true, true, true, false, false, false, false] rfl rfl (any_of HT_.out (by kernel_rfl)) (fun _ _ _ h => h) (Or.inl ⟨by rfl, ?_⟩) ?_ ?_
           rotate_left
           ·intro w'
            go_simp
            with_reducible rfl
           rotate_left
           ·simp only [Act.put, List.setIfInBounds_toArray, List.set_cons_zero, List.set_cons_succ, i64_w, i32_w]
            rfl
           refine take_ (i := 7) (N := some 55) (v := ?_) (a' := ?_) #[true, true, true, true, true, true, true, true, true, true, true, true, true, false, false, false, false] rfl rfl (take_ofW HT_.out HW_.out (by kernel_rfl)) (fun _ _ _ h => h) (Or.inl ⟨by rfl, ?_⟩) hHeld ?_ ?_
           rotate_left
           ·rintro w' ⟨s0, s1, s2, s3, s4, s5, s6, s7, s8, s9, s10, s11, s12, s13⟩
            go_simp
            with_reducible rfl
           rotate_left
           ·simp only [Act.put, List.setIfInBounds_toArray, List.set_cons_zero, List.set_cons_succ, i64_w, i32_w]
            rfl
           refine take_ (i := 13) (N := some 61) (v := ?_) (a' := ?_) #[true, true, true, true, true, true, true, true, true, true, true, true, true, true, false, false, false] rfl rfl (take_ofW HT_.out HW_.out (by kernel_rfl)) (fun _ _ _ h => h) (Or.inl ⟨by rfl, ?_⟩) hHeld ?_ ?_
           rotate_left
           ·rintro w' ⟨s0, s1, s2, s3, s4, s5, s6, s7, s8, s9, s10, s11, s12, s13⟩
            go_simp
            with_reducible rfl
           rotate_left
           ·simp only [Act.put, List.setIfInBounds_toArray, List.set_cons_zero, List.set_cons_succ, i64_w, i32_w]
            rfl
           refine pure_ (i := 14) (N := some 62) (v := ?_) (a' := ?_) #[true, true, true, true, true, true, true, true, true, true, true, true, true, true, true, false, false] rfl rfl (any_of HT_.out (by kernel_rfl)) (fun _ _ _ h => h) (Or.inl ⟨by rfl, ?_⟩) ?_ ?_
           rotate_left
           ·intro w'
            go_simp
            with_reducible rfl
           rotate_left
           ·simp only [Act.put, List.setIfInBounds_toArray, List.set_cons_zero, List.set_cons_succ, i64_w, i32_w]
            rfl
           refine last_ (i := 15) (N := some 63) #[true, true, true, true, true, true, true, true, true, true, true, true, true, true, true, true, false] rfl rfl (one_of HT_.out (by kernel_rfl)) (by decide) (fun K hK => ?_)
           refine Kd.R_append_rows_step Kd.string (w0 := w) w.heap.size (by rfl) (.tmp 48) (.tmp 62) 32 9 (.string ⟨#[]⟩) 16 rfl Try.underlying32 info9 rfl (by decide) (by omega) u10 x10_1 ((l1.take (((rd_T41 t389 x11_1).f2.f1) : Int).toNat).drop (((rd_T41 t389 x11_1).f2.f0) : Int).toNat) _ _ _ (fun _ => True) (fun _ => False) rfl rfl ?aO ?aR (fun _ _ h => h) (fun _ h => h.elim) ?aF ?aB ?aS ?aL ?_
           (case aR => first | (rw [← show ((l1.take (((rd_T41 t389 x11_1).f2.f1) : Int).toNat).drop (((rd_T41 t389 x11_1).f2.f0) : Int).toNat).length = (((rd_T41 t389 x11_1).f2.f1).toNat - ((rd_T41 t389 x11_1).f2.f0).toNat) from (by rw [List.length_drop, List.length_take]; have h_ : (((rd_T41 t389 x11_1).f2.f1) : Int) ≤ (l1.length : Int) := Zo (by first | (with_reducible assumption) | assumption); omega)]; repeat (first | exact (Kd.C_below HR402.out HB.out) | (with_reducible refine Kd.C_alloc ?_ _) | (with_reducible refine Kd.C_drewN ?_ _) | (with_reducible refine Kd.C_drew ?_))) | (repeat (first | exact (Kd.C_below HR402.out HB.out) | (with_reducible refine Kd.C_alloc ?_ _) | (with_reducible refine Kd.C_drewN ?_ _) | (with_reducible refine Kd.C_drew ?_))))
           (case aB => exact (by repeat (first | (with_reducible first | exact HB.out | apply below_alloc | apply Zd | apply below_drew1) | exact HB.out)))
           (case aF => exact (fun _ _ => trivial))
           (case aO => exact (by (with_reducible repeat (first | apply Kd.R_alloc | apply Kd.R_drewN | apply Kd.R_drew)); exact HO_10.out))
           (case aS => exact (below_size (by repeat (first | (with_reducible first | exact HB.out | apply below_alloc | apply Zd | apply below_drew1) | exact HB.out))))
           (case aL => have := LMc22.out; have hlx_ := (show ((l1.take (((rd_T41 t389 x11_1).f2.f1) : Int).toNat).drop (((rd_T41 t389 x11_1).f2.f0) : Int).toNat).length = (((rd_T41 t389 x11_1).f2.f1).toNat - ((rd_T41 t389 x11_1).f2.f0).toNat) from (by rw [List.length_drop, List.length_take]; have h_ : (((rd_T41 t389 x11_1).f2.f1) : Int) ≤ (l1.length : Int) := Zo (by first | (with_reducible assumption) | assumption); omega)); omega)
           intro v404 w25 ho hb hg hat
           rw [← Ny403.out] at ho
           have n0_ := Zm (Kd.R_over' (by (with_reducible repeat (first | apply Kd.R_alloc | apply Kd.R_drewN | apply Kd.R_drew)); exact HO_8.out) (Kd.R_typed (by (with_reducible repeat (first | apply Kd.R_alloc | apply Kd.R_drewN | apply Kd.R_drew)); exact HO_10.out)) (by decide) hg)
           have n1_ := Zm (hb)
           have n2_ := Zm (ho)
           clear HO_8
           clear HB
           clear HO_10
           have HO_8 := n0_
           have HB := n1_
           have HO405 := n2_
           clear n0_ n1_ n2_
           clear ho hb hg hat
           refine hK.out _ _ ?_
           clear hK K
           refine norm_ (a' := ?_) ?_ ?_
           rotate_left
           ·show Act.put _ (some 63) _ = _
            simp only [Act.put, List.setIfInBounds_toArray, List.set_cons_zero, List.set_cons_succ, i64_w, i32_w]
            rfl
           refine pure_ (i := 16) (N := some 10) (v := ?_) (a' := ?_) #[true, true, true, true, true, true, true, true, true, true, true, true, true, true, true, true, true] rfl rfl (any_of HT_.out (by kernel_rfl)) (fun _ _ _ h => h) (Or.inl ⟨by rfl, ?_⟩) ?_ ?_
           rotate_left
           ·intro w'
            go_simp
            with_reducible rfl
           rotate_left
           ·simp only [Act.put, List.setIfInBounds_toArray, List.set_cons_zero, List.set_cons_succ, i64_w, i32_w]
            rfl
           refine done_ (done_of HT_.out (by kernel_rfl)) ?_
           try go_wp2
           go_roundg k1
           case measure => have := HK1.out; omega
           case rel => exact ⟨(y403), (wrap64 (x11_1 + 1)), (by first | rfl | (simp; done) | (simp [*]; done)), H', ⟨by have := HK1.out; omega⟩, ⟨by (with_reducible repeat (first | apply Kd.R_alloc | apply Kd.R_drewN | apply Kd.R_drew)); first | exact HO_8.out | exact Kd.R_mono HO_8.out (fun _ _ => trivial)⟩, ⟨by (with_reducible repeat (first | apply Kd.R_alloc | apply Kd.R_drewN | apply Kd.R_drew)); first | exact HO405.out | exact Kd.R_mono HO405.out (fun _ _ => trivial)⟩, ⟨by repeat (first | (with_reducible first | exact HB.out | apply below_alloc | apply Zd | apply below_drew1) | exact HB.out)⟩⟩
          ·rw [if_neg c22] at H
           exact absurd H (by simp)
         ·rw [if_neg c21] at H
          exact absurd H (by simp)
        ·rw [if_neg c20] at H
         exact absurd H (by simp)
       ·rw [if_neg c19] at H
        exact absurd H (by simp)
     ·rw [if_neg c10] at H
      exact absurd H (by simp)
    ·rw [if_neg c9] at H
     have c9b0 : decide (x11_1 < (t389.length : Int)) = false := decide_eq_false c9
     clear c9
     simp only [Option.some.injEq, Prod.mk.injEq] at H
     obtain ⟨rfl, rfl⟩ := H
     go_wp2
     go_ret2
     exact ⟨_, by first | rfl | (simp [errW_none, errW_some] <;> rfl) | (simp [*, errW_none, errW_some] <;> rfl), by (with_reducible repeat (first | apply Kd.R_alloc | apply Kd.R_drewN | apply Kd.R_drew)); exact HO_10.out, by repeat (first | (with_reducible first | exact HB.out | apply below_alloc | apply Zd | apply below_drew1) | exact HB.out)⟩
 ·replace c6 := Bool.eq_false_iff.mpr c6
  subst c6
  have H1 : (some (([] : List ByteArray), false)) = some (r1, r2) := by rw [if_neg (show ¬ (false = true) by decide)] at H; exact H
  clear H
  have H := H1
  clear H1
  simp only [Option.some.injEq, Prod.mk.injEq] at H
  obtain ⟨rfl, rfl⟩ := H
  go_enter Try.func19, Try.ntmps19
  go_wp2_with (first | ((with_reducible refine gate_callee (f := 21) rfl ?_); refine goesL_ (some 15) rfl rfl Try.func21 (by kernel_rfl) rfl #[.slice A0 l0.length c0, .slice A1 l1.length c1, .slice A2 l2.length c2] rfl (by (try simp only [List.map_toArray, List.map_cons, List.map_nil]); first | done | rfl | (simp only [List.length_drop, List.length_take]; rfl)) ?_; (with_reducible refine (r07_Parts.calls k (fun k_ => k_ < w.heap.size) _ _ l0 (fun k_ => k_ < w.heap.size) _ _ l1 (fun k_ => k_ < w.heap.size) _ _ l2 t389 _ ?side1 ?side2 ?side3 A4.out).mono ?_); (case side1 => exact Kd.V_mk HC0.out (Kd.F_below (Kd.C_F Kd.heap_string HR0.out) (by repeat (first | (with_reducible first | exact HB.out | apply below_alloc | apply Zd | apply below_drew1) | exact HB.out)))); (case side2 => exact Kd.V_mk HC1.out (Kd.F_below (Kd.C_F Kd.heap_string HR1.out) (by repeat (first | (with_reducible first | exact HB.out | apply below_alloc | apply Zd | apply below_drew1) | exact HB.out)))); (case side3 => exact Kd.V_mk HC2.out (Kd.F_below (Kd.C_F Kd.heap_string HR2.out) (by repeat (first | (with_reducible first | exact HB.out | apply below_alloc | apply Zd | apply below_drew1) | exact HB.out)))); rintro e w26 ⟨v390, rfl, ho0, hb⟩; refine ⟨_, rfl, ?_⟩; have n0_ := Zm (Kd.R_lower (Kd.R_mono (ok' := fun k_ => True) ho0 (fun _ hk_ => trivial)) (below_size (by repeat (first | (with_reducible first | exact HB.out | apply below_alloc | apply Zd | apply below_drew1) | exact HB.out)))); have n1_ := Zm (below_step (by repeat (first | (with_reducible first | exact HB.out | apply below_alloc | apply Zd | apply below_drew1) | exact HB.out)) hb); clear HB; have HO391 := n0_; have HB := n1_; clear n0_ n1_; (try clear hb); (try clear hb2); (try clear hk); (try clear hi); (try clear ho0); obtain ⟨Ao27, co27, eo27⟩ := Kd.R_slice HO391.out; subst eo27) | ((with_reducible refine gate_callee (f := 16) rfl ?_); refine goesL_ (some 17) rfl rfl Try.func16 (by kernel_rfl) rfl #[.slice Ao27 t389.length co27] rfl (by (try simp only [List.map_toArray, List.map_cons, List.map_nil]); first | done | rfl | (simp only [List.length_drop, List.length_take]; rfl)) ?_; (with_reducible refine (r07_Clean.calls k _ _ t389 false _ ?side1 ?side2 A5.out).mono ?_); (case side1 => repeat (first | exact (Kd.R_reads' HO391.out).2.2 | (with_reducible refine Kd.C_alloc ?_ _) | (with_reducible refine Kd.C_drewN ?_ _) | (with_reducible refine Kd.C_drew ?_))); (case side2 => exact (Kd.R_reads' HO391.out).2.1); rintro e w' ⟨rfl, ⟨nd, rfl⟩⟩; refine ⟨_, rfl, ?_⟩))
  go_ret2
  exact ⟨_, by first | rfl | (simp [errW_none, errW_some] <;> rfl) | (simp [*, errW_none, errW_some] <;> rfl), by first | exact Kd.R_nil _ _ _ _ _ | exact Kd.N_nil _ _ _ _ _ | exact Kd.V_nil _ _ _ _ _ | exact Kd.Q_nil _ _ _ _ _ | exact Kd.S_nil _ _ _ _ _, by repeat (first | (with_reducible first | exact HB.out | apply below_alloc | apply Zd | apply below_drew1) | exact HB.out)⟩
/-! ### r01_Same: function 22 -/
def r01_Same.l0 : Nat → List ByteArray → List ByteArray → Int → Option (Bool)
 | 0, _, _, _ => none
 | k + 1, x0, x1, x5 => if x5 < (x0.length : Int) then (if 0 ≤ x5 then (if x5 < (x1.length : Int) then (if (rdOf ByteArray.empty x0 x5).toList = (rdOf ByteArray.empty x1 x5).toList then (r01_Same.l0 k x0 x1 (wrap64 (x5 + 1))) else (some false)) else (none)) else (none)) else (some true)
def r01_Same.f (k : Nat) (l0 : List ByteArray) (l1 : List ByteArray) : Option (Bool) := if (l0.length : Int) = (l1.length : Int) then (r01_Same.l0 k l0 l1 0) else (some false)
theorem r01_Same.mono_l : ∀ k, (∀ y0 y1 y2, LeO (r01_Same.l0 k y0 y1 y2) (r01_Same.l0 (k + 1) y0 y1 y2))
 | 0 => fun _ _ _ r h => by simp [r01_Same.l0] at h
 | k + 1 => by
  have ih0 := r01_Same.mono_l k
  ·intro y0 y1 y2
   unfold r01_Same.l0
   repeat' first
   | (with_reducible exact ih0 _ _ _)
   | (with_reducible exact LeO.refl _)
   | (with_reducible exact LeO.none _)
   | (with_reducible refine LeO.ite ?_ ?_)
   | (with_reducible refine LeO.bind ?_ (fun _ => ?_))
   | exact ih0 _ _ _
   | exact LeO.none _
   | refine LeO.ite ?_ ?_
   | refine LeO.bind ?_ (fun _ => ?_)
theorem r01_Same.mono : ∀ a0 a1 k, LeO (r01_Same.f k a0 a1) (r01_Same.f (k + 1) a0 a1) := by
 intro a0 a1 k
 have ih0 := r01_Same.mono_l k
 unfold r01_Same.f
 repeat' first
   | (with_reducible exact ih0 _ _ _)
   | (with_reducible exact LeO.refl _)
   | (with_reducible exact LeO.none _)
   | (with_reducible refine LeO.ite ?_ ?_)
   | (with_reducible refine LeO.bind ?_ (fun _ => ?_))
   | exact ih0 _ _ _
   | exact LeO.none _
   | refine LeO.ite ?_ ?_
   | refine LeO.bind ?_ (fun _ => ?_)
set_option maxHeartbeats 8000000 in
set_option maxRecDepth 100000 in
theorem r01_Same.calls (k : Nat) (A0 : Option Addr) (c0 : Nat) (l0 : List ByteArray) (A1 : Option Addr) (c1 : Nat) (l1 : List ByteArray) (r : Bool) (w : World) (hr0 : Kd.C Kd.string w A0 l0.length l0) (hc0 : l0.length ≤ c0) (hr1 : Kd.C Kd.string w A1 l1.length l1) (hc1 : l1.length ≤ c1) (h : r01_Same.f k l0 l1 = some r) :
  Calls Try.prog 22 #[.slice A0 l0.length c0, .slice A1 l1.length c1] w fun e w' => e = .returned (.bool r) ∧ Drawn0 w w' := by
 have HR0 := Zm hr0
 have HC0 := Zm hc0
 clear hr0 hc0
 have HR1 := Zm hr1
 have HC1 := Zm hc1
 clear hr1 hc1
 have H : (if (l0.length : Int) = (l1.length : Int) then (r01_Same.l0 k l0 l1 0) else (some false)) = some r := h
 clear h
 by_cases c3 : (l0.length : Int) = (l1.length : Int)
 ·rw [if_pos c3] at H
  have c3b0 : ((l0.length : Int) == (l1.length : Int)) = true := beq_iff_eq.mpr c3
  have c3b1 : ((l0.length : Int) != (l1.length : Int)) = false := bne_eq_false_iff_eq.mpr c3
  have c3b2 : (l0.length == l1.length) = true := by first | simpa using c3 | (simp at c3 ⊢; omega)
  clear c3
  have H' := Zm H
  clear H
  go_enter Try.func22, Try.ntmps22
  go_wp2
  repeat (go_quiet (fail); try go_wp2)
  go_loopg [5] k (fun kq v5 w' => ∃ (x5_1 : Int), v5 = .int .i64 x5_1 ∧ Aside0 (r01_Same.l0 kq l0 l1 x5_1 = some r) ∧ Aside0 (kq ≤ k) ∧ Drawn0 w w')
  case atStart => exact ⟨(0), (by first | rfl | (simp; done) | (simp [*]; done)), H', ⟨Nat.le_refl _⟩, by repeat (first | exact Drawn0.refl _ | apply Drawn0.step)⟩
  case round =>
   clear H'
   try clear c1
   try clear c2
   try clear p2
   try clear c3
   try clear c3b0
   try clear c3b1
   try clear c3b2
   obtain ⟨x5_1, rfl, HA, HK1, ⟨m1, rfl⟩⟩ := hrel
   cases gk with
   | zero => exact absurd HA.out (by simp [r01_Same.l0])
   | succ k1 =>
    have H := HA.out
    clear HA
    simp only [r01_Same.l0] at H
    by_cases c4 : x5_1 < (l0.length : Int)
    ·rw [if_pos c4] at H
     have c4b0 : decide (x5_1 < (l0.length : Int)) = true := decide_eq_true c4
     clear c4
     by_cases c5 : 0 ≤ x5_1
     ·rw [if_pos c5] at H
      have c5b0 : decide (0 ≤ x5_1) = true := decide_eq_true c5
      clear c5
      by_cases c6 : x5_1 < (l1.length : Int)
      ·rw [if_pos c6] at H
       have c6b0 : decide (x5_1 < (l1.length : Int)) = true := decide_eq_true c6
       clear c6
       by_cases c7 : (rdOf ByteArray.empty l0 x5_1).toList = (rdOf ByteArray.empty l1 x5_1).toList
       ·rw [if_pos c7] at H
        have c7b0 : ((rdOf ByteArray.empty l0 x5_1).toList == (rdOf ByteArray.empty l1 x5_1).toList) = true := beq_iff_eq.mpr c7
        have c7b1 : ((rdOf ByteArray.empty l0 x5_1).toList != (rdOf ByteArray.empty l1 x5_1).toList) = false := bne_eq_false_iff_eq.mpr c7
        clear c7
        have H' := Zm H
        clear H
        have p406 : 0 ≤ (x5_1 : Int) := Zo (by first | (with_reducible assumption) | assumption)
        have q406 : x5_1 < (l0.length : Int) := Zo (by first | (with_reducible assumption) | assumption)
        obtain ⟨ad406, e406, hx406_0⟩ := Kd.at_string HR0.out x5_1 p406 q406
        cases e406
        replace p406 := eq_true p406
        replace q406 := eq_true q406
        have p407 : 0 ≤ (x5_1 : Int) := Zo (by first | (with_reducible assumption) | assumption)
        have q407 : x5_1 < (l1.length : Int) := Zo (by first | (with_reducible assumption) | assumption)
        obtain ⟨ad407, e407, hx407_0⟩ := Kd.at_string HR1.out x5_1 p407 q407
        cases e407
        replace p407 := eq_true p407
        replace q407 := eq_true q407
        go_wp2
        repeat (go_quiet (fail); try go_wp2)
        go_roundg k1
        case measure => have := HK1.out; omega
        case rel => exact ⟨(wrap64 (x5_1 + 1)), (by first | rfl | (simp; done) | (simp [*]; done)), H', ⟨by have := HK1.out; omega⟩, by repeat (first | exact Drawn0.refl _ | apply Drawn0.step)⟩
       ·rw [if_neg c7] at H
        have c7b0 : ((rdOf ByteArray.empty l0 x5_1).toList == (rdOf ByteArray.empty l1 x5_1).toList) = false := beq_eq_false_iff_ne.mpr c7
        have c7b1 : ((rdOf ByteArray.empty l0 x5_1).toList != (rdOf ByteArray.empty l1 x5_1).toList) = true := bne_iff_ne.mpr c7
        obtain rfl := Option.some.inj H
        have p406 : 0 ≤ (x5_1 : Int) := Zo (by first | (with_reducible assumption) | assumption)
        have q406 : x5_1 < (l0.length : Int) := Zo (by first | (with_reducible assumption) | assumption)
        obtain ⟨ad406, e406, hx406_0⟩ := Kd.at_string HR0.out x5_1 p406 q406
        cases e406
        replace p406 := eq_true p406
        replace q406 := eq_true q406
        have p407 : 0 ≤ (x5_1 : Int) := Zo (by first | (with_reducible assumption) | assumption)
        have q407 : x5_1 < (l1.length : Int) := Zo (by first | (with_reducible assumption) | assumption)
        obtain ⟨ad407, e407, hx407_0⟩ := Kd.at_string HR1.out x5_1 p407 q407
        cases e407
        replace p407 := eq_true p407
        replace q407 := eq_true q407
        go_wp2
        repeat (go_quiet (fail); try go_wp2)
        go_ret
        exact ⟨by first | rfl | (simp; done) | (simp [*]; done), by repeat (first | exact Drawn0.refl _ | apply Drawn0.step)⟩
      ·rw [if_neg c6] at H
       exact absurd H (by simp)
     ·rw [if_neg c5] at H
      exact absurd H (by simp)
    ·rw [if_neg c4] at H
     have c4b0 : decide (x5_1 < (l0.length : Int)) = false := decide_eq_false c4
     clear c4
     obtain rfl := Option.some.inj H
     go_wp2
     repeat (go_quiet (fail); try go_wp2)
     go_ret
     exact ⟨by first | rfl | (simp; done) | (simp [*]; done), by repeat (first | exact Drawn0.refl _ | apply Drawn0.step)⟩
 ·rw [if_neg c3] at H
  have c3b0 : ((l0.length : Int) == (l1.length : Int)) = false := beq_eq_false_iff_ne.mpr c3
  have c3b1 : ((l0.length : Int) != (l1.length : Int)) = true := bne_iff_ne.mpr c3
  have c3b2 : (l0.length == l1.length) = false := by first | simpa using c3 | (simp at c3 ⊢; omega)
  obtain rfl := Option.some.inj H
  go_enter Try.func22, Try.ntmps22
  go_wp2
  repeat (go_quiet (fail); try go_wp2)
  go_ret
  exact ⟨by first | rfl | (simp; done) | (simp [*]; done), by repeat (first | exact Drawn0.refl _ | apply Drawn0.step)⟩
end Go.Proofs.Yteafndooaokagaa.PDiff
