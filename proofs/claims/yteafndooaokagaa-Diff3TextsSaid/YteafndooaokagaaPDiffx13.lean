/- Laid by a program of this session out of the seat's translation. -/
import Derived.Test.YteafndooaokagaaPDiffx0
import Derived.Test.YteafndooaokagaaPDiffx11
import Derived.Test.YteafndooaokagaaPDiffx12
namespace Go.Proofs.Yteafndooaokagaa.PDiff
open Go.RowKit Go.Proofs.YteafndooaokagaaW.PrintWords Go.Proofs.YteafndooaokagaaW.PrintLast Go.Proofs.YteafndooaokagaaW.PrintMore
attribute [local go_sem] max2_int min2_int max_two min_two max_three min_three max_four min_four   -- for this text's walks alone
set_option linter.unusedVariables false
set_option linter.unusedSimpArgs false
/-! ### r07_Chunks: function 14 -/
mutual
def r07_Chunks.l0 : Nat → List Int → List Int → List Int → List Int → List Int → List (S41) → Int → Int → Int → Option ((List (S41)))
 | 0, _, _, _, _, _, _, _, _, _ => none
 | k + 1, x0, x1, x2, x7, x8, x9, x10, x11, x12 => if x10 < (x0.length : Int) then (r07_Chunks.j1 k x0 x1 x2 x7 x8 x9 x10 x11 x12 true) else (if x11 < (x1.length : Int) then (r07_Chunks.j1 k x0 x1 x2 x7 x8 x9 x10 x11 x12 true) else (r07_Chunks.j1 k x0 x1 x2 x7 x8 x9 x10 x11 x12 (decide (x12 < (x2.length : Int)))))
def r07_Chunks.j1 : Nat → List Int → List Int → List Int → List Int → List Int → List (S41) → Int → Int → Int → Bool → Option ((List (S41)))
 | 0, _, _, _, _, _, _, _, _, _, _ => none
 | k + 1, x0, x1, x2, x7, x8, x9, x10, x11, x12, x38 => if x38 = true then (r07_Chunks.l1 k x0 x1 x2 x7 x8 x9 x10 x11 x12 0) else (some x9)
def r07_Chunks.j3 : Nat → List Int → List Int → List Int → List Int → List Int → List (S41) → Int → Int → Int → Int → Option ((List (S41)))
 | 0, _, _, _, _, _, _, _, _, _, _ => none
 | k + 1, x0, x1, x2, x7, x8, x9, x10, x11, x12, x13 => if x13 = 0 then (r07_Chunks.l2 k x0 x1 x2 x7 x8 x9 x10 x11 x12 (wrap64 (x10 + x13))) else (if 0 ≤ x10 then (if x10 ≤ (wrap64 (x10 + x13)) then (if (wrap64 (x10 + x13)) ≤ (x0.length : Int) then (if 0 ≤ x11 then (if x11 ≤ (wrap64 (x11 + x13)) then (if (wrap64 (x11 + x13)) ≤ (x1.length : Int) then (if 0 ≤ x12 then (if x12 ≤ (wrap64 (x12 + x13)) then (if (wrap64 (x12 + x13)) ≤ (x2.length : Int) then ((r07_kind.f k ((x0.take ((wrap64 (x10 + x13)) : Int).toNat).drop (x10 : Int).toNat) ((x1.take ((wrap64 (x11 + x13)) : Int).toNat).drop (x11 : Int).toNat) ((x2.take ((wrap64 (x12 + x13)) : Int).toNat).drop (x12 : Int).toNat)).bind fun t304 => (if x9.length < 2513169434916 then (r07_Chunks.l0 k x0 x1 x2 x7 x8 (x9 ++ [(⟨t304, (⟨x10, wrap64 (x10 + x13)⟩ : S39), (⟨x11, wrap64 (x11 + x13)⟩ : S39), (⟨x12, wrap64 (x12 + x13)⟩ : S39)⟩ : S41)]) (wrap64 (x10 + x13)) (wrap64 (x11 + x13)) (wrap64 (x12 + x13))) else (none))) else (none)) else (none)) else (none)) else (none)) else (none)) else (none)) else (none)) else (none)) else (none))
def r07_Chunks.l2 : Nat → List Int → List Int → List Int → List Int → List Int → List (S41) → Int → Int → Int → Int → Option ((List (S41)))
 | 0, _, _, _, _, _, _, _, _, _, _ => none
 | k + 1, x0, x1, x2, x7, x8, x9, x10, x11, x12, x14 => if x14 < (x0.length : Int) then (if 0 ≤ x14 then (if x14 < (x7.length : Int) then (if (rd x7 x14) < 0 then (r07_Chunks.l2 k x0 x1 x2 x7 x8 x9 x10 x11 x12 (wrap64 (x14 + 1))) else (if x14 < (x8.length : Int) then (if (rd x8 x14) < 0 then (r07_Chunks.l2 k x0 x1 x2 x7 x8 x9 x10 x11 x12 (wrap64 (x14 + 1))) else (if 0 ≤ x10 then (if x10 ≤ x14 then (if x14 ≤ (x0.length : Int) then (if 0 ≤ x11 then (if x11 ≤ (rd x7 x14) then (if (rd x7 x14) ≤ (x1.length : Int) then (if 0 ≤ x12 then (if x12 ≤ (rd x8 x14) then (if (rd x8 x14) ≤ (x2.length : Int) then ((r07_kind.f k ((x0.take (x14 : Int).toNat).drop (x10 : Int).toNat) ((x1.take ((rd x7 x14) : Int).toNat).drop (x11 : Int).toNat) ((x2.take ((rd x8 x14) : Int).toNat).drop (x12 : Int).toNat)).bind fun t290 => (if x9.length < 2513169434916 then (r07_Chunks.l0 k x0 x1 x2 x7 x8 (x9 ++ [(⟨t290, (⟨x10, x14⟩ : S39), (⟨x11, rd x7 x14⟩ : S39), (⟨x12, rd x8 x14⟩ : S39)⟩ : S41)]) x14 (rd x7 x14) (rd x8 x14)) else (none))) else (none)) else (none)) else (none)) else (none)) else (none)) else (none)) else (none)) else (none)) else (none))) else (none))) else (none)) else (none)) else (if 0 ≤ x10 then (if x10 ≤ x14 then (if x14 ≤ (x0.length : Int) then (if 0 ≤ x11 then (if x11 ≤ (x1.length : Int) then (if (x1.length : Int) ≤ (x1.length : Int) then (if 0 ≤ x12 then (if x12 ≤ (x2.length : Int) then (if (x2.length : Int) ≤ (x2.length : Int) then ((r07_kind.f k ((x0.take (x14 : Int).toNat).drop (x10 : Int).toNat) ((x1.take ((x1.length : Int) : Int).toNat).drop (x11 : Int).toNat) ((x2.take ((x2.length : Int) : Int).toNat).drop (x12 : Int).toNat)).bind fun t297 => (if x9.length < 2513169434916 then (r07_Chunks.l0 k x0 x1 x2 x7 x8 (x9 ++ [(⟨t297, (⟨x10, x14⟩ : S39), (⟨x11, (x1.length : Int)⟩ : S39), (⟨x12, (x2.length : Int)⟩ : S39)⟩ : S41)]) x14 (x1.length : Int) (x2.length : Int)) else (none))) else (none)) else (none)) else (none)) else (none)) else (none)) else (none)) else (none)) else (none)) else (none))
def r07_Chunks.l1 : Nat → List Int → List Int → List Int → List Int → List Int → List (S41) → Int → Int → Int → Int → Option ((List (S41)))
 | 0, _, _, _, _, _, _, _, _, _, _ => none
 | k + 1, x0, x1, x2, x7, x8, x9, x10, x11, x12, x13 => if (wrap64 (x10 + x13)) < (x0.length : Int) then (if 0 ≤ (wrap64 (x10 + x13)) then (if (wrap64 (x10 + x13)) < (x7.length : Int) then (if (rd x7 (wrap64 (x10 + x13))) = (wrap64 (x11 + x13)) then (if (wrap64 (x10 + x13)) < (x8.length : Int) then (if (rd x8 (wrap64 (x10 + x13))) = (wrap64 (x12 + x13)) then (r07_Chunks.l1 k x0 x1 x2 x7 x8 x9 x10 x11 x12 (wrap64 (x13 + 1))) else (r07_Chunks.j3 k x0 x1 x2 x7 x8 x9 x10 x11 x12 x13)) else (none)) else (r07_Chunks.j3 k x0 x1 x2 x7 x8 x9 x10 x11 x12 x13)) else (none)) else (none)) else (r07_Chunks.j3 k x0 x1 x2 x7 x8 x9 x10 x11 x12 x13)
end
def r07_Chunks.f (k : Nat) (l0 : List Int) (l1 : List Int) (l2 : List Int) : Option ((List (S41))) := (r05_Match.f k l0 l1).bind fun t275 => ((r05_Match.f k l0 l2).bind fun t278 => (r07_Chunks.l0 k l0 l1 l2 t275 t278 ([] : List (S41)) 0 0 0))
theorem r07_Chunks.mono_l : ∀ k, (∀ y0 y1 y2 y3 y4 y5 y6 y7 y8, LeO (r07_Chunks.l0 k y0 y1 y2 y3 y4 y5 y6 y7 y8) (r07_Chunks.l0 (k + 1) y0 y1 y2 y3 y4 y5 y6 y7 y8)) ∧ (∀ y0 y1 y2 y3 y4 y5 y6 y7 y8 y9, LeO (r07_Chunks.j1 k y0 y1 y2 y3 y4 y5 y6 y7 y8 y9) (r07_Chunks.j1 (k + 1) y0 y1 y2 y3 y4 y5 y6 y7 y8 y9)) ∧ (∀ y0 y1 y2 y3 y4 y5 y6 y7 y8 y9, LeO (r07_Chunks.j3 k y0 y1 y2 y3 y4 y5 y6 y7 y8 y9) (r07_Chunks.j3 (k + 1) y0 y1 y2 y3 y4 y5 y6 y7 y8 y9)) ∧ (∀ y0 y1 y2 y3 y4 y5 y6 y7 y8 y9, LeO (r07_Chunks.l2 k y0 y1 y2 y3 y4 y5 y6 y7 y8 y9) (r07_Chunks.l2 (k + 1) y0 y1 y2 y3 y4 y5 y6 y7 y8 y9)) ∧ (∀ y0 y1 y2 y3 y4 y5 y6 y7 y8 y9, LeO (r07_Chunks.l1 k y0 y1 y2 y3 y4 y5 y6 y7 y8 y9) (r07_Chunks.l1 (k + 1) y0 y1 y2 y3 y4 y5 y6 y7 y8 y9))
 | 0 => ⟨fun _ _ _ _ _ _ _ _ _ r h => by simp [r07_Chunks.l0] at h, fun _ _ _ _ _ _ _ _ _ _ r h => by simp [r07_Chunks.j1] at h, fun _ _ _ _ _ _ _ _ _ _ r h => by simp [r07_Chunks.j3] at h, fun _ _ _ _ _ _ _ _ _ _ r h => by simp [r07_Chunks.l2] at h, fun _ _ _ _ _ _ _ _ _ _ r h => by simp [r07_Chunks.l1] at h⟩
 | k + 1 => by
  obtain ⟨ih0, ih1, ih2, ih3, ih4⟩ := r07_Chunks.mono_l k
  refine ⟨?_, ?_, ?_, ?_, ?_⟩
  ·intro y0 y1 y2 y3 y4 y5 y6 y7 y8
   unfold r07_Chunks.l0
   repeat' first
   | (with_reducible exact ih0 _ _ _ _ _ _ _ _ _)
   | (with_reducible exact ih1 _ _ _ _ _ _ _ _ _ _)
   | (with_reducible exact ih2 _ _ _ _ _ _ _ _ _ _)
   | (with_reducible exact ih3 _ _ _ _ _ _ _ _ _ _)
   | (with_reducible exact ih4 _ _ _ _ _ _ _ _ _ _)
   | (with_reducible exact r05_Match.mono _ _ _)
   | (with_reducible exact r07_kind.mono _ _ _ _)
   | (with_reducible exact LeO.refl _)
   | (with_reducible exact LeO.none _)
   | (with_reducible refine LeO.ite ?_ ?_)
   | (with_reducible refine LeO.bind ?_ (fun _ => ?_))
   | exact ih0 _ _ _ _ _ _ _ _ _
   | exact ih1 _ _ _ _ _ _ _ _ _ _
   | exact ih2 _ _ _ _ _ _ _ _ _ _
   | exact ih3 _ _ _ _ _ _ _ _ _ _
   | exact ih4 _ _ _ _ _ _ _ _ _ _
   | exact r05_Match.mono _ _ _
   | exact r07_kind.mono _ _ _ _
   | exact LeO.none _
   | refine LeO.ite ?_ ?_
   | refine LeO.bind ?_ (fun _ => ?_)
  ·intro y0 y1 y2 y3 y4 y5 y6 y7 y8 y9
   unfold r07_Chunks.j1
   repeat' first
   | (with_reducible exact ih0 _ _ _ _ _ _ _ _ _)
   | (with_reducible exact ih1 _ _ _ _ _ _ _ _ _ _)
   | (with_reducible exact ih2 _ _ _ _ _ _ _ _ _ _)
   | (with_reducible exact ih3 _ _ _ _ _ _ _ _ _ _)
   | (with_reducible exact ih4 _ _ _ _ _ _ _ _ _ _)
   | (with_reducible exact r05_Match.mono _ _ _)
   | (with_reducible exact r07_kind.mono _ _ _ _)
   | (with_reducible exact LeO.refl _)
   | (with_reducible exact LeO.none _)
   | (with_reducible refine LeO.ite ?_ ?_)
   | (with_reducible refine LeO.bind ?_ (fun _ => ?_))
   | exact ih0 _ _ _ _ _ _ _ _ _
   | exact ih1 _ _ _ _ _ _ _ _ _ _
   | exact ih2 _ _ _ _ _ _ _ _ _ _
   | exact ih3 _ _ _ _ _ _ _ _ _ _
   | exact ih4 _ _ _ _ _ _ _ _ _ _
   | exact r05_Match.mono _ _ _
   | exact r07_kind.mono _ _ _ _
   | exact LeO.none _
   | refine LeO.ite ?_ ?_
   | refine LeO.bind ?_ (fun _ => ?_)
  ·intro y0 y1 y2 y3 y4 y5 y6 y7 y8 y9
   unfold r07_Chunks.j3
   repeat' first
   | (with_reducible exact ih0 _ _ _ _ _ _ _ _ _)
   | (with_reducible exact ih1 _ _ _ _ _ _ _ _ _ _)
   | (with_reducible exact ih2 _ _ _ _ _ _ _ _ _ _)
   | (with_reducible exact ih3 _ _ _ _ _ _ _ _ _ _)
   | (with_reducible exact ih4 _ _ _ _ _ _ _ _ _ _)
   | (with_reducible exact r05_Match.mono _ _ _)
   | (with_reducible exact r07_kind.mono _ _ _ _)
   | (with_reducible exact LeO.refl _)
   | (with_reducible exact LeO.none _)
   | (with_reducible refine LeO.ite ?_ ?_)
   | (with_reducible refine LeO.bind ?_ (fun _ => ?_))
   | exact ih0 _ _ _ _ _ _ _ _ _
   | exact ih1 _ _ _ _ _ _ _ _ _ _
   | exact ih2 _ _ _ _ _ _ _ _ _ _
   | exact ih3 _ _ _ _ _ _ _ _ _ _
   | exact ih4 _ _ _ _ _ _ _ _ _ _
   | exact r05_Match.mono _ _ _
   | exact r07_kind.mono _ _ _ _
   | exact LeO.none _
   | refine LeO.ite ?_ ?_
   | refine LeO.bind ?_ (fun _ => ?_)
  ·intro y0 y1 y2 y3 y4 y5 y6 y7 y8 y9
   unfold r07_Chunks.l2
   repeat' first
   | (with_reducible exact ih0 _ _ _ _ _ _ _ _ _)
   | (with_reducible exact ih1 _ _ _ _ _ _ _ _ _ _)
   | (with_reducible exact ih2 _ _ _ _ _ _ _ _ _ _)
   | (with_reducible exact ih3 _ _ _ _ _ _ _ _ _ _)
   | (with_reducible exact ih4 _ _ _ _ _ _ _ _ _ _)
   | (with_reducible exact r05_Match.mono _ _ _)
   | (with_reducible exact r07_kind.mono _ _ _ _)
   | (with_reducible exact LeO.refl _)
   | (with_reducible exact LeO.none _)
   | (with_reducible refine LeO.ite ?_ ?_)
   | (with_reducible refine LeO.bind ?_ (fun _ => ?_))
   | exact ih0 _ _ _ _ _ _ _ _ _
   | exact ih1 _ _ _ _ _ _ _ _ _ _
   | exact ih2 _ _ _ _ _ _ _ _ _ _
   | exact ih3 _ _ _ _ _ _ _ _ _ _
   | exact ih4 _ _ _ _ _ _ _ _ _ _
   | exact r05_Match.mono _ _ _
   | exact r07_kind.mono _ _ _ _
   | exact LeO.none _
   | refine LeO.ite ?_ ?_
   | refine LeO.bind ?_ (fun _ => ?_)
  ·intro y0 y1 y2 y3 y4 y5 y6 y7 y8 y9
   unfold r07_Chunks.l1
   repeat' first
   | (with_reducible exact ih0 _ _ _ _ _ _ _ _ _)
   | (with_reducible exact ih1 _ _ _ _ _ _ _ _ _ _)
   | (with_reducible exact ih2 _ _ _ _ _ _ _ _ _ _)
   | (with_reducible exact ih3 _ _ _ _ _ _ _ _ _ _)
   | (with_reducible exact ih4 _ _ _ _ _ _ _ _ _ _)
   | (with_reducible exact r05_Match.mono _ _ _)
   | (with_reducible exact r07_kind.mono _ _ _ _)
   | (with_reducible exact LeO.refl _)
   | (with_reducible exact LeO.none _)
   | (with_reducible refine LeO.ite ?_ ?_)
   | (with_reducible refine LeO.bind ?_ (fun _ => ?_))
   | exact ih0 _ _ _ _ _ _ _ _ _
   | exact ih1 _ _ _ _ _ _ _ _ _ _
   | exact ih2 _ _ _ _ _ _ _ _ _ _
   | exact ih3 _ _ _ _ _ _ _ _ _ _
   | exact ih4 _ _ _ _ _ _ _ _ _ _
   | exact r05_Match.mono _ _ _
   | exact r07_kind.mono _ _ _ _
   | exact LeO.none _
   | refine LeO.ite ?_ ?_
   | refine LeO.bind ?_ (fun _ => ?_)
theorem r07_Chunks.mono : ∀ a0 a1 a2 k, LeO (r07_Chunks.f k a0 a1 a2) (r07_Chunks.f (k + 1) a0 a1 a2) := by
 intro a0 a1 a2 k
 obtain ⟨ih0, ih1, ih2, ih3, ih4⟩ := r07_Chunks.mono_l k
 unfold r07_Chunks.f
 repeat' first
   | (with_reducible exact ih0 _ _ _ _ _ _ _ _ _)
   | (with_reducible exact ih1 _ _ _ _ _ _ _ _ _ _)
   | (with_reducible exact ih2 _ _ _ _ _ _ _ _ _ _)
   | (with_reducible exact ih3 _ _ _ _ _ _ _ _ _ _)
   | (with_reducible exact ih4 _ _ _ _ _ _ _ _ _ _)
   | (with_reducible exact r05_Match.mono _ _ _)
   | (with_reducible exact r07_kind.mono _ _ _ _)
   | (with_reducible exact LeO.refl _)
   | (with_reducible exact LeO.none _)
   | (with_reducible refine LeO.ite ?_ ?_)
   | (with_reducible refine LeO.bind ?_ (fun _ => ?_))
   | exact ih0 _ _ _ _ _ _ _ _ _
   | exact ih1 _ _ _ _ _ _ _ _ _ _
   | exact ih2 _ _ _ _ _ _ _ _ _ _
   | exact ih3 _ _ _ _ _ _ _ _ _ _
   | exact ih4 _ _ _ _ _ _ _ _ _ _
   | exact r05_Match.mono _ _ _
   | exact r07_kind.mono _ _ _ _
   | exact LeO.none _
   | refine LeO.ite ?_ ?_
   | refine LeO.bind ?_ (fun _ => ?_)
def r07_Chunks.T22 : Bool × List (List Nat × List Nat) := (true, [([], []), ([], []), ([], []), ([], []), ([1, 2, 3], [1, 2, 3]), ([], []), ([], []), ([], []), ([5, 6, 7], [5, 6, 7]), ([], []), ([], []), ([], []), ([9, 10, 11], [9, 10, 11]), ([4, 8, 12], [4, 8, 12]), ([], []), ([], []), ([14, 15], [14, 15]), ([], []), ([], []), ([17, 18], [17, 18]), ([], []), ([], []), ([20, 21], [20, 21]), ([13, 16, 19, 22], [13, 16, 19, 22]), ([23], [23]), ([0, 24, 13], [0, 24]), ([25, 25, 0, 1, 2, 3, 4, 5, 6, 7, 8, 9, 10, 11, 12, 13, 14, 15, 16, 17, 18, 19, 20, 21, 22, 23, 24, 25], [0, 25])])
def r07_Chunks.B22 : List Nat := [0, 0, 0, 0, 14, 0, 0, 0, 224, 0, 0, 0, 3584, 8190, 0, 0, 49152, 0, 0, 393216, 0, 0, 3145728, 8388606, 16777214, 33554431, 67108863]
theorem r07_Chunks.tab22 : rtab .any (opsOf Try.f14 22) = r07_Chunks.T22 := by kernel_rfl
theorem r07_Chunks.bits22 : waitsOk r07_Chunks.T22.2 r07_Chunks.B22 = true := by kernel_rfl
set_option maxHeartbeats 8000000 in
set_option maxRecDepth 100000 in
theorem r07_Chunks.calls (k : Nat) (A0 : Option Addr) (c0 : Nat) (l0 : List Int) (A1 : Option Addr) (c1 : Nat) (l1 : List Int) (A2 : Option Addr) (c2 : Nat) (l2 : List Int) (r : List (S41)) (w : World) (hr0 : Kd.C (Kd.int .i64) w A0 l0.length l0) (hc0 : l0.length ≤ c0) (hr1 : Kd.C (Kd.int .i64) w A1 l1.length l1) (hc1 : l1.length ≤ c1) (hr2 : Kd.C (Kd.int .i64) w A2 l2.length l2) (hc2 : l2.length ≤ c2) (h : r07_Chunks.f k l0 l1 l2 = some r) :
  Calls Try.prog 14 #[.slice A0 l0.length c0, .slice A1 l1.length c1, .slice A2 l2.length c2] w fun e w' => ∃ v0_ : Value, e = .returned (v0_) ∧ Kd.R k41 41 w' w.heap.size (fun _ => True) v0_ r ∧ Below w.heap.size w w' := by
 have hu39 := Try.underlying39
 have hu41 := Try.underlying41
 have HR0 := Zm hr0
 have HC0 := Zm hc0
 clear hr0 hc0
 have HR1 := Zm hr1
 have HC1 := Zm hc1
 clear hr1 hc1
 have HR2 := Zm hr2
 have HC2 := Zm hc2
 clear hr2 hc2
 have HB := Zm (Below.refl w.heap.size w)
 have H : ((r05_Match.f k l0 l1).bind fun t275 => ((r05_Match.f k l0 l2).bind fun t278 => (r07_Chunks.l0 k l0 l1 l2 t275 t278 ([] : List (S41)) 0 0 0))) = some r := h
 clear h
 replace H := Option.bind_eq_some_iff.mp H
 obtain ⟨t275, A40, H⟩ := H
 replace H : ((r05_Match.f k l0 l2).bind fun t278 => (r07_Chunks.l0 k l0 l1 l2 t275 t278 ([] : List (S41)) 0 0 0)) = some r := H
 have A4 := Zm A40
 clear A40
 replace H := Option.bind_eq_some_iff.mp H
 obtain ⟨t278, A50, H⟩ := H
 replace H : (r07_Chunks.l0 k l0 l1 l2 t275 t278 ([] : List (S41)) 0 0 0) = some r := H
 have A5 := Zm A50
 clear A50
 have H' := Zm H
 clear H
 go_enter Try.func14, Try.ntmps14
 go_wp2_with (first | ((with_reducible refine gate_callee (f := 26) rfl ?_); refine goesL_ (some 19) rfl rfl Try.func26 (by kernel_rfl) rfl #[.slice A0 l0.length c0, .slice A1 l1.length c1] rfl (by (try simp only [List.map_toArray, List.map_cons, List.map_nil]); first | done | rfl | (simp only [List.length_drop, List.length_take]; rfl)) ?_; (with_reducible refine (r05_Match.calls k _ _ l0 _ _ l1 t275 _ ?side1 ?side2 ?side3 ?side4 A4.out).mono ?_); (case side1 => repeat (first | exact HR0.out | (with_reducible refine Kd.C_alloc ?_ _) | (with_reducible refine Kd.C_drewN ?_ _) | (with_reducible refine Kd.C_drew ?_))); (case side2 => exact HC0.out); (case side3 => repeat (first | exact HR1.out | (with_reducible refine Kd.C_alloc ?_ _) | (with_reducible refine Kd.C_drewN ?_ _) | (with_reducible refine Kd.C_drew ?_))); (case side4 => exact HC1.out); rintro e w6 ⟨v276, rfl, ho0, hb⟩; refine ⟨_, rfl, ?_⟩; have n0_ := Zm (Kd.R_lower ho0 (below_size (by repeat (first | (with_reducible first | exact HB.out | apply below_alloc | apply Zd | apply below_drew1) | exact HB.out)))); have n1_ := Zm (below_step (by repeat (first | (with_reducible first | exact HB.out | apply below_alloc | apply Zd | apply below_drew1) | exact HB.out)) hb); clear HB; have HO277 := n0_; have HB := n1_; clear n0_ n1_; (try clear hb); (try clear hb2); (try clear hk); (try clear hi); (try clear ho0)) | ((with_reducible refine gate_callee (f := 26) rfl ?_); refine goesL_ (some 22) rfl rfl Try.func26 (by kernel_rfl) rfl #[.slice A0 l0.length c0, .slice A2 l2.length c2] rfl (by (try simp only [List.map_toArray, List.map_cons, List.map_nil]); first | done | rfl | (simp only [List.length_drop, List.length_take]; rfl)) ?_; (with_reducible refine (r05_Match.calls k _ _ l0 _ _ l2 t278 _ ?side1 ?side2 ?side3 ?side4 A5.out).mono ?_); (case side1 => repeat (first | exact (Kd.C_below HR0.out HB.out) | (with_reducible refine Kd.C_alloc ?_ _) | (with_reducible refine Kd.C_drewN ?_ _) | (with_reducible refine Kd.C_drew ?_))); (case side2 => exact HC0.out); (case side3 => repeat (first | exact (Kd.C_below HR2.out HB.out) | (with_reducible refine Kd.C_alloc ?_ _) | (with_reducible refine Kd.C_drewN ?_ _) | (with_reducible refine Kd.C_drew ?_))); (case side4 => exact HC2.out); rintro e w7 ⟨v279, rfl, ho0, hb⟩; refine ⟨_, rfl, ?_⟩; have n0_ := Zm (Kd.R_elder' (by (with_reducible repeat (first | apply Kd.R_alloc | apply Kd.R_drewN | apply Kd.R_drew)); exact HO277.out) (Kd.R_base ho0) hb); have n1_ := Zm (Kd.R_lower (Kd.R_new' ho0 (Kd.R_lt (by (with_reducible repeat (first | apply Kd.R_alloc | apply Kd.R_drewN | apply Kd.R_drew)); exact HO277.out))) (below_size (by repeat (first | (with_reducible first | exact HB.out | apply below_alloc | apply Zd | apply below_drew1) | exact HB.out)))); have n2_ := Zm (below_step (by repeat (first | (with_reducible first | exact HB.out | apply below_alloc | apply Zd | apply below_drew1) | exact HB.out)) hb); clear HO277; clear HB; have HO277 := n0_; have HO280 := n1_; have HB := n2_; clear n0_ n1_ n2_; (try clear hb); (try clear hb2); (try clear hk); (try clear hi); (try clear ho0)))
 go_loopg [9, 10, 11, 12] k (fun kq v9 v10 v11 v12 w' => ∃ (x9_1 : List (S41)) (x10_1 : Int) (x11_1 : Int) (x12_1 : Int), v10 = .int .i64 x10_1 ∧ v11 = .int .i64 x11_1 ∧ v12 = .int .i64 x12_1 ∧ Aside0 (r07_Chunks.l0 kq l0 l1 l2 t275 t278 x9_1 x10_1 x11_1 x12_1 = some r) ∧ Aside0 (kq ≤ k) ∧ Aside0 (Kd.R (Kd.int .i64) 3 w' w.heap.size (fun k_ => some k_ ≠ (v279 : Value).ownBlock) v276 t275) ∧ Aside0 (Kd.R (Kd.int .i64) 3 w' w.heap.size (fun k_ => some k_ ≠ (v276 : Value).ownBlock) v279 t278) ∧ Aside0 (Kd.R k41 41 w' w.heap.size (fun _ => True) v9 x9_1) ∧ Aside0 (Below w.heap.size w w'))
 case atStart => exact ⟨(([] : List (S41))), (0), (0), (0), (by first | rfl | (simp; done) | (simp [*]; done)), (by first | rfl | (simp; done) | (simp [*]; done)), (by first | rfl | (simp; done) | (simp [*]; done)), H', ⟨Nat.le_refl _⟩, ⟨by (with_reducible repeat (first | apply Kd.R_alloc | apply Kd.R_drewN | apply Kd.R_drew)); exact Kd.R_mono HO277.out (fun _ hk => hk.2)⟩, ⟨by (with_reducible repeat (first | apply Kd.R_alloc | apply Kd.R_drewN | apply Kd.R_drew)); exact Kd.R_mono HO280.out (fun _ hk => hk.2)⟩, ⟨by first | exact Kd.R_nil _ _ _ _ _ | exact Kd.N_nil _ _ _ _ _ | exact Kd.V_nil _ _ _ _ _ | exact Kd.Q_nil _ _ _ _ _ | exact Kd.S_nil _ _ _ _ _⟩, ⟨by repeat (first | (with_reducible first | exact HB.out | apply below_alloc | apply Zd | apply below_drew1) | exact HB.out)⟩⟩
 case round =>
  clear H'
  try clear c1
  try clear c2
  try clear p2
  obtain ⟨x9_1, x10_1, x11_1, x12_1, rfl, rfl, rfl, HA, HK1, HO_7, HO_8, HO_9, HB⟩ := hrel
  cases gk with
  | zero => exact absurd HA.out (by simp [r07_Chunks.l0])
  | succ k1 =>
   have H := HA.out
   clear HA
   simp only [r07_Chunks.l0] at H
   have HC8 := Zm H
   clear H
   go_upto_region 7 with (fail)
   go_cut [38] (fun v38 wc => ∃ (kq : Nat) (x38_7 : Bool), v38 = .bool x38_7 ∧ Aside0 (r07_Chunks.j1 kq l0 l1 l2 t275 t278 x9_1 x10_1 x11_1 x12_1 x38_7 = some r) ∧ Aside0 (kq ≤ k1) ∧ Aside0 (Kd.R (Kd.int .i64) 3 wc w.heap.size (fun k_ => some k_ ≠ (v279 : Value).ownBlock) v276 t275) ∧ Aside0 (Kd.R (Kd.int .i64) 3 wc w.heap.size (fun k_ => some k_ ≠ (v276 : Value).ownBlock) v279 t278) ∧ Aside0 (Kd.R k41 41 wc w.heap.size (fun _ => True) u9 x9_1) ∧ Aside0 (Below w.heap.size w wc))
   case first =>
    have H := HC8.out
    clear HC8
    by_cases c9 : x10_1 < (l0.length : Int)
    ·rw [if_pos c9] at H
     have c9b0 : decide (x10_1 < (l0.length : Int)) = true := decide_eq_true c9
     clear c9
     (first | rw [c9b0] | (simp only [i64_w, i32_w]; rw [c9b0]) | skip)
     have H' := Zm H
     clear H
     go_wp2
     go_meet
     case rel => exact ⟨_, (true), (by first | rfl | (simp; done) | (simp [*]; done)), H', ⟨by have := HK1.out; first | omega | exact Nat.le_refl _⟩, ⟨by (with_reducible repeat (first | apply Kd.R_alloc | apply Kd.R_drewN | apply Kd.R_drew)); first | exact HO_7.out | exact Kd.R_mono HO_7.out (fun _ _ => trivial)⟩, ⟨by (with_reducible repeat (first | apply Kd.R_alloc | apply Kd.R_drewN | apply Kd.R_drew)); first | exact HO_8.out | exact Kd.R_mono HO_8.out (fun _ _ => trivial)⟩, ⟨by (with_reducible repeat (first | apply Kd.R_alloc | apply Kd.R_drewN | apply Kd.R_drew)); first | exact HO_9.out | exact Kd.R_mono HO_9.out (fun _ _ => trivial)⟩, ⟨by repeat (first | (with_reducible first | exact HB.out | apply below_alloc | apply Zd | apply below_drew1) | exact HB.out)⟩⟩
    ·rw [if_neg c9] at H
     have c9b0 : decide (x10_1 < (l0.length : Int)) = false := decide_eq_false c9
     clear c9
     (first | rw [c9b0] | (simp only [i64_w, i32_w]; rw [c9b0]) | skip)
     by_cases c10 : x11_1 < (l1.length : Int)
     ·rw [if_pos c10] at H
      have c10b0 : decide (x11_1 < (l1.length : Int)) = true := decide_eq_true c10
      clear c10
      have H' := Zm H
      clear H
      go_wp2
      go_meet
      case rel => exact ⟨_, (true), (by first | rfl | (simp; done) | (simp [*]; done)), H', ⟨by have := HK1.out; first | omega | exact Nat.le_refl _⟩, ⟨by (with_reducible repeat (first | apply Kd.R_alloc | apply Kd.R_drewN | apply Kd.R_drew)); first | exact HO_7.out | exact Kd.R_mono HO_7.out (fun _ _ => trivial)⟩, ⟨by (with_reducible repeat (first | apply Kd.R_alloc | apply Kd.R_drewN | apply Kd.R_drew)); first | exact HO_8.out | exact Kd.R_mono HO_8.out (fun _ _ => trivial)⟩, ⟨by (with_reducible repeat (first | apply Kd.R_alloc | apply Kd.R_drewN | apply Kd.R_drew)); first | exact HO_9.out | exact Kd.R_mono HO_9.out (fun _ _ => trivial)⟩, ⟨by repeat (first | (with_reducible first | exact HB.out | apply below_alloc | apply Zd | apply below_drew1) | exact HB.out)⟩⟩
     ·rw [if_neg c10] at H
      have c10b0 : decide (x11_1 < (l1.length : Int)) = false := decide_eq_false c10
      clear c10
      have H' := Zm H
      clear H
      go_wp2
      go_meet
      case rel => exact ⟨_, (decide (x12_1 < (l2.length : Int))), (by first | rfl | (simp; done) | (simp [*]; done)), H', ⟨by have := HK1.out; first | omega | exact Nat.le_refl _⟩, ⟨by (with_reducible repeat (first | apply Kd.R_alloc | apply Kd.R_drewN | apply Kd.R_drew)); first | exact HO_7.out | exact Kd.R_mono HO_7.out (fun _ _ => trivial)⟩, ⟨by (with_reducible repeat (first | apply Kd.R_alloc | apply Kd.R_drewN | apply Kd.R_drew)); first | exact HO_8.out | exact Kd.R_mono HO_8.out (fun _ _ => trivial)⟩, ⟨by (with_reducible repeat (first | apply Kd.R_alloc | apply Kd.R_drewN | apply Kd.R_drew)); first | exact HO_9.out | exact Kd.R_mono HO_9.out (fun _ _ => trivial)⟩, ⟨by repeat (first | (with_reducible first | exact HB.out | apply below_alloc | apply Zd | apply below_drew1) | exact HB.out)⟩⟩
   case rest =>
    clear HC8
    try clear c1
    try clear c2
    try clear p2
    try clear c9
    try clear c9b0
    try clear c10
    try clear c10b0
    try clear p2
    obtain ⟨kq, x38_7, rfl, HA, HJ7, HO_7, HO_8, HO_9, HB⟩ := hcut
    cases kq with
    | zero => exact absurd HA.out (by simp [r07_Chunks.j1])
    | succ kj7 =>
     have H := HA.out
     clear HA
     simp only [r07_Chunks.j1] at H
     by_cases c11 : x38_7 = true
     ·subst c11
      have H1 : (r07_Chunks.l1 kj7 l0 l1 l2 t275 t278 x9_1 x10_1 x11_1 x12_1 0) = some r := by rw [if_pos rfl] at H; exact H
      clear H
      have H := H1
      clear H1
      have HC12 := Zm H
      clear H
      go_upto_block 2 with (fail)
      go_cut [13] (fun v13 wc => ∃ (kq : Nat) (x13_11 : Int), v13 = .int .i64 x13_11 ∧ Aside0 (r07_Chunks.j3 kq l0 l1 l2 t275 t278 x9_1 x10_1 x11_1 x12_1 x13_11 = some r) ∧ Aside0 (kq ≤ kj7) ∧ Aside0 (Kd.R (Kd.int .i64) 3 wc w.heap.size (fun k_ => some k_ ≠ (v279 : Value).ownBlock) v276 t275) ∧ Aside0 (Kd.R (Kd.int .i64) 3 wc w.heap.size (fun k_ => some k_ ≠ (v276 : Value).ownBlock) v279 t278) ∧ Aside0 (Kd.R k41 41 wc w.heap.size (fun _ => True) u9 x9_1) ∧ Aside0 (Below w.heap.size w wc))
      case first =>
       have H := HC12.out
       clear HC12
       have H' := Zm H
       clear H
       go_wp2
       go_loopg [13] kj7 (fun kq v13 w' => ∃ (x13_3 : Int), v13 = .int .i64 x13_3 ∧ Aside0 (r07_Chunks.l1 kq l0 l1 l2 t275 t278 x9_1 x10_1 x11_1 x12_1 x13_3 = some r) ∧ Aside0 (kq ≤ kj7) ∧ Aside0 (Kd.R (Kd.int .i64) 3 w' w.heap.size (fun k_ => some k_ ≠ (v279 : Value).ownBlock) v276 t275) ∧ Aside0 (Kd.R (Kd.int .i64) 3 w' w.heap.size (fun k_ => some k_ ≠ (v276 : Value).ownBlock) v279 t278) ∧ Aside0 (Kd.R k41 41 w' w.heap.size (fun _ => True) u9 x9_1) ∧ Aside0 (Below w.heap.size w w'))
       case atStart => exact ⟨(0), (by first | rfl | (simp; done) | (simp [*]; done)), H', ⟨Nat.le_refl _⟩, ⟨by (with_reducible repeat (first | apply Kd.R_alloc | apply Kd.R_drewN | apply Kd.R_drew)); first | exact HO_7.out | exact Kd.R_mono HO_7.out (fun _ _ => trivial)⟩, ⟨by (with_reducible repeat (first | apply Kd.R_alloc | apply Kd.R_drewN | apply Kd.R_drew)); first | exact HO_8.out | exact Kd.R_mono HO_8.out (fun _ _ => trivial)⟩, ⟨by (with_reducible repeat (first | apply Kd.R_alloc | apply Kd.R_drewN | apply Kd.R_drew)); first | exact HO_9.out | exact Kd.R_mono HO_9.out (fun _ _ => trivial)⟩, ⟨by repeat (first | (with_reducible first | exact HB.out | apply below_alloc | apply Zd | apply below_drew1) | exact HB.out)⟩⟩
       case round =>
        clear H'
        try clear c1
        try clear c2
        try clear p2
        try clear c9
        try clear c9b0
        try clear c10
        try clear c10b0
        try clear c11
        try clear p2
        obtain ⟨x13_3, rfl, HA, HK3, HO_7, HO_8, HO_9, HB⟩ := hrel
        cases gk with
        | zero => exact absurd HA.out (by simp [r07_Chunks.l1])
        | succ k3 =>
         have H := HA.out
         clear HA
         simp only [r07_Chunks.l1] at H
         by_cases c13 : (wrap64 (x10_1 + x13_3)) < (l0.length : Int)
         ·rw [if_pos c13] at H
          have c13b0 : decide ((wrap64 (x10_1 + x13_3)) < (l0.length : Int)) = true := decide_eq_true c13
          clear c13
          (first | rw [c13b0] | (simp only [i64_w, i32_w]; rw [c13b0]) | skip)
          obtain ⟨ji14, hji14⟩ : ∃ j_ : Int, (wrap64 (x10_1 + x13_3)) = j_ := ⟨_, rfl⟩
          replace H : (if 0 ≤ (ji14) then (if (ji14) < (t275.length : Int) then (if (rd t275 (ji14)) = (wrap64 (x11_1 + x13_3)) then (if (ji14) < (t278.length : Int) then (if (rd t278 (ji14)) = (wrap64 (x12_1 + x13_3)) then (r07_Chunks.l1 k3 l0 l1 l2 t275 t278 x9_1 x10_1 x11_1 x12_1 (wrap64 (x13_3 + 1))) else (r07_Chunks.j3 k3 l0 l1 l2 t275 t278 x9_1 x10_1 x11_1 x12_1 x13_3)) else (none)) else (r07_Chunks.j3 k3 l0 l1 l2 t275 t278 x9_1 x10_1 x11_1 x12_1 x13_3)) else (none)) else (none)) = some r := by first | (rw [hji14] at H; exact H) | (simp only [hji14] at H ⊢; exact H)
          (try rw [hji14] at c13b0)
          have hji14w : (IntKind.i64.wrap (x10_1 + x13_3)) = ji14 := (i64_w _).trans hji14
          by_cases c15 : 0 ≤ (ji14)
          ·rw [if_pos c15] at H
           have c15b0 : decide (0 ≤ (ji14)) = true := decide_eq_true c15
           clear c15
           by_cases c16 : (ji14) < (t275.length : Int)
           ·rw [if_pos c16] at H
            have c16b0 : decide ((ji14) < (t275.length : Int)) = true := decide_eq_true c16
            clear c16
            by_cases c17 : (rd t275 (ji14)) = (wrap64 (x11_1 + x13_3))
            ·rw [if_pos c17] at H
             have c17b0 : ((rd t275 (ji14)) == (wrap64 (x11_1 + x13_3))) = true := beq_iff_eq.mpr c17
             have c17b1 : ((rd t275 (ji14)) != (wrap64 (x11_1 + x13_3))) = false := bne_eq_false_iff_eq.mpr c17
             clear c17
             by_cases c18 : (ji14) < (t278.length : Int)
             ·rw [if_pos c18] at H
              have c18b0 : decide ((ji14) < (t278.length : Int)) = true := decide_eq_true c18
              clear c18
              by_cases c19 : (rd t278 (ji14)) = (wrap64 (x12_1 + x13_3))
              ·rw [if_pos c19] at H
               have c19b0 : ((rd t278 (ji14)) == (wrap64 (x12_1 + x13_3))) = true := beq_iff_eq.mpr c19
               have c19b1 : ((rd t278 (ji14)) != (wrap64 (x12_1 + x13_3))) = false := bne_eq_false_iff_eq.mpr c19
               clear c19
               have H' := Zm H
               clear H
               obtain ⟨Ao20, co20, eo20⟩ := Kd.R_slice HO_7.out
               subst eo20
               have p281 : 0 ≤ ((ji14) : Int) := Zo (by first | (with_reducible assumption) | assumption)
               have q281 : (ji14) < (t275.length : Int) := Zo (by first | (with_reducible assumption) | assumption)
               obtain ⟨ad281, e281, hx281_0⟩ := Kd.at_int (Kd.R_reads' HO_7.out).2.2 (ji14) p281 q281
               cases e281
               replace p281 := eq_true p281
               replace q281 := eq_true q281
               obtain ⟨Ao21, co21, eo21⟩ := Kd.R_slice HO_8.out
               subst eo21
               have p282 : 0 ≤ ((ji14) : Int) := Zo (by first | (with_reducible assumption) | assumption)
               have q282 : (ji14) < (t278.length : Int) := Zo (by first | (with_reducible assumption) | assumption)
               obtain ⟨ad282, e282, hx282_0⟩ := Kd.at_int (Kd.R_reads' HO_8.out).2.2 (ji14) p282 q282
               cases e282
               replace p282 := eq_true p282
               replace q282 := eq_true q282
               go_wp2
               go_roundg k3
               case measure => have := HK1.out; have := HJ7.out; have := HK3.out; omega
               case rel => exact ⟨(wrap64 (x13_3 + 1)), (by first | rfl | (simp; done) | (simp [*]; done)), H', ⟨by have := HK1.out; have := HJ7.out; have := HK3.out; omega⟩, ⟨by (with_reducible repeat (first | apply Kd.R_alloc | apply Kd.R_drewN | apply Kd.R_drew)); first | exact HO_7.out | exact Kd.R_mono HO_7.out (fun _ _ => trivial)⟩, ⟨by (with_reducible repeat (first | apply Kd.R_alloc | apply Kd.R_drewN | apply Kd.R_drew)); first | exact HO_8.out | exact Kd.R_mono HO_8.out (fun _ _ => trivial)⟩, ⟨by (with_reducible repeat (first | apply Kd.R_alloc | apply Kd.R_drewN | apply Kd.R_drew)); first | exact HO_9.out | exact Kd.R_mono HO_9.out (fun _ _ => trivial)⟩, ⟨by repeat (first | (with_reducible first | exact HB.out | apply below_alloc | apply Zd | apply below_drew1) | exact HB.out)⟩⟩
              ·rw [if_neg c19] at H
               have c19b0 : ((rd t278 (ji14)) == (wrap64 (x12_1 + x13_3))) = false := beq_eq_false_iff_ne.mpr c19
               have c19b1 : ((rd t278 (ji14)) != (wrap64 (x12_1 + x13_3))) = true := bne_iff_ne.mpr c19
               have H' := Zm H
               clear H
               obtain ⟨Ao22, co22, eo22⟩ := Kd.R_slice HO_7.out
               subst eo22
               have p281 : 0 ≤ ((ji14) : Int) := Zo (by first | (with_reducible assumption) | assumption)
               have q281 : (ji14) < (t275.length : Int) := Zo (by first | (with_reducible assumption) | assumption)
               obtain ⟨ad281, e281, hx281_0⟩ := Kd.at_int (Kd.R_reads' HO_7.out).2.2 (ji14) p281 q281
               cases e281
               replace p281 := eq_true p281
               replace q281 := eq_true q281
               obtain ⟨Ao23, co23, eo23⟩ := Kd.R_slice HO_8.out
               subst eo23
               have p282 : 0 ≤ ((ji14) : Int) := Zo (by first | (with_reducible assumption) | assumption)
               have q282 : (ji14) < (t278.length : Int) := Zo (by first | (with_reducible assumption) | assumption)
               obtain ⟨ad282, e282, hx282_0⟩ := Kd.at_int (Kd.R_reads' HO_8.out).2.2 (ji14) p282 q282
               cases e282
               replace p282 := eq_true p282
               replace q282 := eq_true q282
               go_wp2
               go_meet
               case rel => exact ⟨_, (x13_3), (by first | rfl | (simp; done) | (simp [*]; done)), H', ⟨by have := HK1.out; have := HJ7.out; have := HK3.out; first | omega | exact Nat.le_refl _⟩, ⟨by (with_reducible repeat (first | apply Kd.R_alloc | apply Kd.R_drewN | apply Kd.R_drew)); first | exact HO_7.out | exact Kd.R_mono HO_7.out (fun _ _ => trivial)⟩, ⟨by (with_reducible repeat (first | apply Kd.R_alloc | apply Kd.R_drewN | apply Kd.R_drew)); first | exact HO_8.out | exact Kd.R_mono HO_8.out (fun _ _ => trivial)⟩, ⟨by (with_reducible repeat (first | apply Kd.R_alloc | apply Kd.R_drewN | apply Kd.R_drew)); first | exact HO_9.out | exact Kd.R_mono HO_9.out (fun _ _ => trivial)⟩, ⟨by repeat (first | (with_reducible first | exact HB.out | apply below_alloc | apply Zd | apply below_drew1) | exact HB.out)⟩⟩
             ·rw [if_neg c18] at H
              exact absurd H (by simp)
            ·rw [if_neg c17] at H
             have c17b0 : ((rd t275 (ji14)) == (wrap64 (x11_1 + x13_3))) = false := beq_eq_false_iff_ne.mpr c17
             have c17b1 : ((rd t275 (ji14)) != (wrap64 (x11_1 + x13_3))) = true := bne_iff_ne.mpr c17
             have H' := Zm H
             clear H
             obtain ⟨Ao24, co24, eo24⟩ := Kd.R_slice HO_7.out
             subst eo24
             have p281 : 0 ≤ ((ji14) : Int) := Zo (by first | (with_reducible assumption) | assumption)
             have q281 : (ji14) < (t275.length : Int) := Zo (by first | (with_reducible assumption) | assumption)
             obtain ⟨ad281, e281, hx281_0⟩ := Kd.at_int (Kd.R_reads' HO_7.out).2.2 (ji14) p281 q281
             cases e281
             replace p281 := eq_true p281
             replace q281 := eq_true q281
             go_wp2
             go_meet
             case rel => exact ⟨_, (x13_3), (by first | rfl | (simp; done) | (simp [*]; done)), H', ⟨by have := HK1.out; have := HJ7.out; have := HK3.out; first | omega | exact Nat.le_refl _⟩, ⟨by (with_reducible repeat (first | apply Kd.R_alloc | apply Kd.R_drewN | apply Kd.R_drew)); first | exact HO_7.out | exact Kd.R_mono HO_7.out (fun _ _ => trivial)⟩, ⟨by (with_reducible repeat (first | apply Kd.R_alloc | apply Kd.R_drewN | apply Kd.R_drew)); first | exact HO_8.out | exact Kd.R_mono HO_8.out (fun _ _ => trivial)⟩, ⟨by (with_reducible repeat (first | apply Kd.R_alloc | apply Kd.R_drewN | apply Kd.R_drew)); first | exact HO_9.out | exact Kd.R_mono HO_9.out (fun _ _ => trivial)⟩, ⟨by repeat (first | (with_reducible first | exact HB.out | apply below_alloc | apply Zd | apply below_drew1) | exact HB.out)⟩⟩
           ·rw [if_neg c16] at H
            exact absurd H (by simp)
          ·rw [if_neg c15] at H
           exact absurd H (by simp)
         ·rw [if_neg c13] at H
          have c13b0 : decide ((wrap64 (x10_1 + x13_3)) < (l0.length : Int)) = false := decide_eq_false c13
          clear c13
          (first | rw [c13b0] | (simp only [i64_w, i32_w]; rw [c13b0]) | skip)
          have H' := Zm H
          clear H
          go_wp2
          go_meet
          case rel => exact ⟨_, (x13_3), (by first | rfl | (simp; done) | (simp [*]; done)), H', ⟨by have := HK1.out; have := HJ7.out; have := HK3.out; first | omega | exact Nat.le_refl _⟩, ⟨by (with_reducible repeat (first | apply Kd.R_alloc | apply Kd.R_drewN | apply Kd.R_drew)); first | exact HO_7.out | exact Kd.R_mono HO_7.out (fun _ _ => trivial)⟩, ⟨by (with_reducible repeat (first | apply Kd.R_alloc | apply Kd.R_drewN | apply Kd.R_drew)); first | exact HO_8.out | exact Kd.R_mono HO_8.out (fun _ _ => trivial)⟩, ⟨by (with_reducible repeat (first | apply Kd.R_alloc | apply Kd.R_drewN | apply Kd.R_drew)); first | exact HO_9.out | exact Kd.R_mono HO_9.out (fun _ _ => trivial)⟩, ⟨by repeat (first | (with_reducible first | exact HB.out | apply below_alloc | apply Zd | apply below_drew1) | exact HB.out)⟩⟩
      case rest =>
       clear HC12
       try clear c1
       try clear c2
       try clear p2
       try clear q2
       try clear hx2
       try clear p6
       try clear c9
       try clear c9b0
       try clear c10
       try clear c10b0
       try clear c11
       try clear c13
       try clear c13b0
       try clear c14
       try clear c15
       try clear c15b0
       try clear c16
       try clear c16b0
       try clear c17
       try clear c17b0
       try clear c17b1
       try clear c18
       try clear c18b0
       try clear c19
       try clear c19b0
       try clear c19b1
       try clear hx281_0
       try clear hx282_0
       try clear p2
       try clear p281
       try clear p282
       try clear q281
       try clear q282
       obtain ⟨kq, x13_11, rfl, HA, HJ11, HO_7, HO_8, HO_9, HB⟩ := hcut
       cases kq with
       | zero => exact absurd HA.out (by simp [r07_Chunks.j3])
       | succ kj11 =>
        have H := HA.out
        clear HA
        simp only [r07_Chunks.j3] at H
        by_cases c25 : x13_11 = 0
        ·rw [if_pos c25] at H
         have c25b0 : (x13_11 == 0) = true := beq_iff_eq.mpr c25
         have c25b1 : (x13_11 != 0) = false := bne_eq_false_iff_eq.mpr c25
         clear c25
         have H' := Zm H
         clear H
         go_wp2
         go_loopg [14] kj11 (fun kq v14 w' => ∃ (x14_4 : Int), v14 = .int .i64 x14_4 ∧ Aside0 (r07_Chunks.l2 kq l0 l1 l2 t275 t278 x9_1 x10_1 x11_1 x12_1 x14_4 = some r) ∧ Aside0 (kq ≤ kj11) ∧ Aside0 (Kd.R (Kd.int .i64) 3 w' w.heap.size (fun k_ => some k_ ≠ (v279 : Value).ownBlock) v276 t275) ∧ Aside0 (Kd.R (Kd.int .i64) 3 w' w.heap.size (fun k_ => some k_ ≠ (v276 : Value).ownBlock) v279 t278) ∧ Aside0 (Kd.R k41 41 w' w.heap.size (fun _ => True) u9 x9_1) ∧ Aside0 (Below w.heap.size w w'))
         case atStart => exact ⟨(wrap64 (x10_1 + x13_11)), (by first | rfl | (simp; done) | (simp [*]; done)), H', ⟨Nat.le_refl _⟩, ⟨by (with_reducible repeat (first | apply Kd.R_alloc | apply Kd.R_drewN | apply Kd.R_drew)); first | exact HO_7.out | exact Kd.R_mono HO_7.out (fun _ _ => trivial)⟩, ⟨by (with_reducible repeat (first | apply Kd.R_alloc | apply Kd.R_drewN | apply Kd.R_drew)); first | exact HO_8.out | exact Kd.R_mono HO_8.out (fun _ _ => trivial)⟩, ⟨by (with_reducible repeat (first | apply Kd.R_alloc | apply Kd.R_drewN | apply Kd.R_drew)); first | exact HO_9.out | exact Kd.R_mono HO_9.out (fun _ _ => trivial)⟩, ⟨by repeat (first | (with_reducible first | exact HB.out | apply below_alloc | apply Zd | apply below_drew1) | exact HB.out)⟩⟩
         case round =>
          clear H'
          try clear c1
          try clear c2
          try clear p2
          try clear q2
          try clear hx2
          try clear p6
          try clear c9
          try clear c9b0
          try clear c10
          try clear c10b0
          try clear c11
          try clear c13
          try clear c13b0
          try clear c14
          try clear c15
          try clear c15b0
          try clear c16
          try clear c16b0
          try clear c17
          try clear c17b0
          try clear c17b1
          try clear c18
          try clear c18b0
          try clear c19
          try clear c19b0
          try clear c19b1
          try clear c25
          try clear c25b0
          try clear c25b1
          try clear hx281_0
          try clear hx282_0
          try clear p2
          try clear p281
          try clear p282
          try clear p6
          try clear q2
          try clear q281
          try clear q282
          obtain ⟨x14_4, rfl, HA, HK4, HO_7, HO_8, HO_9, HB⟩ := hrel
          cases gk with
          | zero => exact absurd HA.out (by simp [r07_Chunks.l2])
          | succ k4 =>
           have H := HA.out
           clear HA
           simp only [r07_Chunks.l2] at H
           by_cases c26 : x14_4 < (l0.length : Int)
           ·rw [if_pos c26] at H
            have c26b0 : decide (x14_4 < (l0.length : Int)) = true := decide_eq_true c26
            clear c26
            by_cases c27 : 0 ≤ x14_4
            ·rw [if_pos c27] at H
             have c27b0 : decide (0 ≤ x14_4) = true := decide_eq_true c27
             clear c27
             by_cases c28 : x14_4 < (t275.length : Int)
             ·rw [if_pos c28] at H
              have c28b0 : decide (x14_4 < (t275.length : Int)) = true := decide_eq_true c28
              clear c28
              by_cases c29 : (rd t275 x14_4) < 0
              ·rw [if_pos c29] at H
               have c29b0 : decide ((rd t275 x14_4) < 0) = true := decide_eq_true c29
               clear c29
               have H' := Zm H
               clear H
               obtain ⟨Ao30, co30, eo30⟩ := Kd.R_slice HO_7.out
               subst eo30
               have p283 : 0 ≤ (x14_4 : Int) := Zo (by first | (with_reducible assumption) | assumption)
               have q283 : x14_4 < (t275.length : Int) := Zo (by first | (with_reducible assumption) | assumption)
               obtain ⟨ad283, e283, hx283_0⟩ := Kd.at_int (Kd.R_reads' HO_7.out).2.2 x14_4 p283 q283
               cases e283
               replace p283 := eq_true p283
               replace q283 := eq_true q283
               go_wp2
               go_roundg k4
               case measure => have := HK1.out; have := HJ7.out; have := HJ11.out; have := HK4.out; omega
               case rel => exact ⟨(wrap64 (x14_4 + 1)), (by first | rfl | (simp; done) | (simp [*]; done)), H', ⟨by have := HK1.out; have := HJ7.out; have := HJ11.out; have := HK4.out; omega⟩, ⟨by (with_reducible repeat (first | apply Kd.R_alloc | apply Kd.R_drewN | apply Kd.R_drew)); first | exact HO_7.out | exact Kd.R_mono HO_7.out (fun _ _ => trivial)⟩, ⟨by (with_reducible repeat (first | apply Kd.R_alloc | apply Kd.R_drewN | apply Kd.R_drew)); first | exact HO_8.out | exact Kd.R_mono HO_8.out (fun _ _ => trivial)⟩, ⟨by (with_reducible repeat (first | apply Kd.R_alloc | apply Kd.R_drewN | apply Kd.R_drew)); first | exact HO_9.out | exact Kd.R_mono HO_9.out (fun _ _ => trivial)⟩, ⟨by repeat (first | (with_reducible first | exact HB.out | apply below_alloc | apply Zd | apply below_drew1) | exact HB.out)⟩⟩
              ·rw [if_neg c29] at H
               have c29b0 : decide ((rd t275 x14_4) < 0) = false := decide_eq_false c29
               clear c29
               by_cases c31 : x14_4 < (t278.length : Int)
               ·rw [if_pos c31] at H
                have c31b0 : decide (x14_4 < (t278.length : Int)) = true := decide_eq_true c31
                clear c31
                by_cases c32 : (rd t278 x14_4) < 0
                ·rw [if_pos c32] at H
                 have c32b0 : decide ((rd t278 x14_4) < 0) = true := decide_eq_true c32
                 clear c32
                 have H' := Zm H
                 clear H
                 obtain ⟨Ao33, co33, eo33⟩ := Kd.R_slice HO_7.out
                 subst eo33
                 have p283 : 0 ≤ (x14_4 : Int) := Zo (by first | (with_reducible assumption) | assumption)
                 have q283 : x14_4 < (t275.length : Int) := Zo (by first | (with_reducible assumption) | assumption)
                 obtain ⟨ad283, e283, hx283_0⟩ := Kd.at_int (Kd.R_reads' HO_7.out).2.2 x14_4 p283 q283
                 cases e283
                 replace p283 := eq_true p283
                 replace q283 := eq_true q283
                 obtain ⟨Ao34, co34, eo34⟩ := Kd.R_slice HO_8.out
                 subst eo34
                 have p284 : 0 ≤ (x14_4 : Int) := Zo (by first | (with_reducible assumption) | assumption)
                 have q284 : x14_4 < (t278.length : Int) := Zo (by first | (with_reducible assumption) | assumption)
                 obtain ⟨ad284, e284, hx284_0⟩ := Kd.at_int (Kd.R_reads' HO_8.out).2.2 x14_4 p284 q284
                 cases e284
                 replace p284 := eq_true p284
                 replace q284 := eq_true q284
                 go_wp2
                 go_roundg k4
                 case measure => have := HK1.out; have := HJ7.out; have := HJ11.out; have := HK4.out; omega
                 case rel => exact ⟨(wrap64 (x14_4 + 1)), (by first | rfl | (simp; done) | (simp [*]; done)), H', ⟨by have := HK1.out; have := HJ7.out; have := HJ11.out; have := HK4.out; omega⟩, ⟨by (with_reducible repeat (first | apply Kd.R_alloc | apply Kd.R_drewN | apply Kd.R_drew)); first | exact HO_7.out | exact Kd.R_mono HO_7.out (fun _ _ => trivial)⟩, ⟨by (with_reducible repeat (first | apply Kd.R_alloc | apply Kd.R_drewN | apply Kd.R_drew)); first | exact HO_8.out | exact Kd.R_mono HO_8.out (fun _ _ => trivial)⟩, ⟨by (with_reducible repeat (first | apply Kd.R_alloc | apply Kd.R_drewN | apply Kd.R_drew)); first | exact HO_9.out | exact Kd.R_mono HO_9.out (fun _ _ => trivial)⟩, ⟨by repeat (first | (with_reducible first | exact HB.out | apply below_alloc | apply Zd | apply below_drew1) | exact HB.out)⟩⟩
                ·rw [if_neg c32] at H
                 have c32b0 : decide ((rd t278 x14_4) < 0) = false := decide_eq_false c32
                 clear c32
                 by_cases c35 : 0 ≤ x10_1
                 ·rw [if_pos c35] at H
                  have c35b0 := eq_true c35
                  have c35b1 : decide (0 ≤ x10_1) = true := decide_eq_true c35
                  clear c35
                  by_cases c36 : x10_1 ≤ x14_4
                  ·rw [if_pos c36] at H
                   have c36b0 := eq_true c36
                   have c36b1 : decide (x10_1 ≤ x14_4) = true := decide_eq_true c36
                   clear c36
                   by_cases c37 : x14_4 ≤ (l0.length : Int)
                   ·rw [if_pos c37] at H
                    have c37b0 := eq_true c37
                    have c37b1 : decide (x14_4 ≤ (l0.length : Int)) = true := decide_eq_true c37
                    clear c37
                    by_cases c38 : 0 ≤ x11_1
                    ·rw [if_pos c38] at H
                     have c38b0 := eq_true c38
                     have c38b1 : decide (0 ≤ x11_1) = true := decide_eq_true c38
                     clear c38
                     by_cases c39 : x11_1 ≤ (rd t275 x14_4)
                     ·rw [if_pos c39] at H
                      have c39b0 := eq_true c39
                      have c39b1 : decide (x11_1 ≤ (rd t275 x14_4)) = true := decide_eq_true c39
                      clear c39
                      by_cases c40 : (rd t275 x14_4) ≤ (l1.length : Int)
                      ·rw [if_pos c40] at H
                       have c40b0 := eq_true c40
                       have c40b1 : decide ((rd t275 x14_4) ≤ (l1.length : Int)) = true := decide_eq_true c40
                       clear c40
                       by_cases c41 : 0 ≤ x12_1
                       ·rw [if_pos c41] at H
                        have c41b0 := eq_true c41
                        have c41b1 : decide (0 ≤ x12_1) = true := decide_eq_true c41
                        clear c41
                        by_cases c42 : x12_1 ≤ (rd t278 x14_4)
                        ·rw [if_pos c42] at H
                         have c42b0 := eq_true c42
                         have c42b1 : decide (x12_1 ≤ (rd t278 x14_4)) = true := decide_eq_true c42
                         clear c42
                         by_cases c43 : (rd t278 x14_4) ≤ (l2.length : Int)
                         ·rw [if_pos c43] at H
                          have c43b0 := eq_true c43
                          have c43b1 : decide ((rd t278 x14_4) ≤ (l2.length : Int)) = true := decide_eq_true c43
                          clear c43
                          replace H := Option.bind_eq_some_iff.mp H
                          obtain ⟨t290, A440, H⟩ := H
                          replace H : (if x9_1.length < 2513169434916 then (r07_Chunks.l0 k4 l0 l1 l2 t275 t278 (x9_1 ++ [(⟨t290, (⟨x10_1, x14_4⟩ : S39), (⟨x11_1, rd t275 x14_4⟩ : S39), (⟨x12_1, rd t278 x14_4⟩ : S39)⟩ : S41)]) x14_4 (rd t275 x14_4) (rd t278 x14_4)) else (none)) = some r := H
                          have A44 := Zm A440
                          clear A440
                          by_cases c45 : x9_1.length < 2513169434916
                          ·rw [if_pos c45] at H
                           have LMc45 := Zm c45
                           clear c45
                           obtain ⟨y291, hy291⟩ : ∃ y_ : List (S41), y_ = (x9_1 ++ [(⟨t290, (⟨x10_1, x14_4⟩ : S39), (⟨x11_1, rd t275 x14_4⟩ : S39), (⟨x12_1, rd t278 x14_4⟩ : S39)⟩ : S41)]) := ⟨_, rfl⟩
                           replace H : (r07_Chunks.l0 k4 l0 l1 l2 t275 t278 y291 x14_4 (rd t275 x14_4) (rd t278 x14_4)) = some r := by first | (rw [hy291]; with_reducible exact H) | (have H2_ := (Option.bind_some _ _).symm.trans H; rw [hy291]; with_reducible exact H2_) | (have H2_ := (Option.bind_some _ _).symm.trans H; with_reducible exact H2_) | with_reducible exact H | (rw [hy291]; exact H) | exact H
                           have Ny291 := Zm hy291
                           clear hy291
                           have H' := Zm H
                           clear H
                           obtain ⟨Ao46, co46, eo46⟩ := Kd.R_slice HO_7.out
                           subst eo46
                           have p283 : 0 ≤ (x14_4 : Int) := Zo (by first | (with_reducible assumption) | assumption)
                           have q283 : x14_4 < (t275.length : Int) := Zo (by first | (with_reducible assumption) | assumption)
                           obtain ⟨ad283, e283, hx283_0⟩ := Kd.at_int (Kd.R_reads' HO_7.out).2.2 x14_4 p283 q283
                           cases e283
                           replace p283 := eq_true p283
                           replace q283 := eq_true q283
                           obtain ⟨Ao47, co47, eo47⟩ := Kd.R_slice HO_8.out
                           subst eo47
                           have p284 : 0 ≤ (x14_4 : Int) := Zo (by first | (with_reducible assumption) | assumption)
                           have q284 : x14_4 < (t278.length : Int) := Zo (by first | (with_reducible assumption) | assumption)
                           obtain ⟨ad284, e284, hx284_0⟩ := Kd.at_int (Kd.R_reads' HO_8.out).2.2 x14_4 p284 q284
                           cases e284
                           replace p284 := eq_true p284
                           replace q284 := eq_true q284
                           have p285 : 0 ≤ (x14_4 : Int) := Zo (by first | (with_reducible assumption) | assumption)
                           have q285 : x14_4 < (t275.length : Int) := Zo (by first | (with_reducible assumption) | assumption)
                           obtain ⟨ad285, e285, hx285_0⟩ := Kd.at_int (Kd.R_reads' HO_7.out).2.2 x14_4 p285 q285
                           obtain rfl : ad283 = ad285 := (by injection e285)
                           replace p285 := eq_true p285
                           replace q285 := eq_true q285
                           have p286 : 0 ≤ (x14_4 : Int) := Zo (by first | (with_reducible assumption) | assumption)
                           have q286 : x14_4 < (t278.length : Int) := Zo (by first | (with_reducible assumption) | assumption)
                           obtain ⟨ad286, e286, hx286_0⟩ := Kd.at_int (Kd.R_reads' HO_8.out).2.2 x14_4 p286 q286
                           obtain rfl : ad284 = ad286 := (by injection e286)
                           replace p286 := eq_true p286
                           replace q286 := eq_true q286
                           try go_wp2
                           have n0_ := Zm (Kd.R_drew HO_7.out)
                           have n1_ := Zm (Kd.R_drew HO_8.out)
                           have n2_ := Zm (Kd.R_drew HO_9.out)
                           have n3_ := Zm (below_drew1 HB.out)
                           clear HO_7
                           clear HO_8
                           clear HO_9
                           clear HB
                           have HO_7 := n0_
                           have HO_8 := n1_
                           have HO_9 := n2_
                           have HB := n3_
                           clear n0_ n1_ n2_ n3_
                           obtain ⟨i049, hi049, _, hsz49, _⟩ := info_parts info3
                           obtain ⟨A49, hcut49, hA49, hC49⟩ := print_mid_of (P := Try.prog) (Value.int .i64) 0 22 3 .i64 .i64 Try.underlying22 hi049 hsz49 A0 c0 l0 x10_1 x14_4 (Zo (by first | (with_reducible assumption) | assumption)) (by first | omega | exact Zo (by first | (with_reducible assumption) | assumption)) (Zo (by first | (with_reducible assumption) | assumption)) HC0.out
                           have HR287 := Zm (Kd.C_of_reads (h1 := fun _ => rfl) (hA49 _ (Kd.reads_of_C HR0.out)))
                           have HC287 := Zm hC49
                           clear hA49 hC49 hi049 hsz49
                           obtain ⟨i050, hi050, _, hsz50, _⟩ := info_parts info3
                           obtain ⟨A50, hcut50, hA50, hC50⟩ := print_mid_of (P := Try.prog) (Value.int .i64) 0 22 3 .i64 .i64 Try.underlying22 hi050 hsz50 A1 c1 l1 x11_1 (rd t275 x14_4) (Zo (by first | (with_reducible assumption) | assumption)) (by first | omega | exact Zo (by first | (with_reducible assumption) | assumption)) (Zo (by first | (with_reducible assumption) | assumption)) HC1.out
                           have HR288 := Zm (Kd.C_of_reads (h1 := fun _ => rfl) (hA50 _ (Kd.reads_of_C HR1.out)))
                           have HC288 := Zm hC50
                           clear hA50 hC50 hi050 hsz50
                           obtain ⟨i051, hi051, _, hsz51, _⟩ := info_parts info3
                           obtain ⟨A51, hcut51, hA51, hC51⟩ := print_mid_of (P := Try.prog) (Value.int .i64) 0 22 3 .i64 .i64 Try.underlying22 hi051 hsz51 A2 c2 l2 x12_1 (rd t278 x14_4) (Zo (by first | (with_reducible assumption) | assumption)) (by first | omega | exact Zo (by first | (with_reducible assumption) | assumption)) (Zo (by first | (with_reducible assumption) | assumption)) HC2.out
                           have HR289 := Zm (Kd.C_of_reads (h1 := fun _ => rfl) (hA51 _ (Kd.reads_of_C HR2.out)))
                           have HC289 := Zm hC51
                           clear hA51 hC51 hi051 hsz51
                           refine start_ (n := 27) (S := fun w' => True) (ds := []) #[false, false, false, false, false, false, false, false, false, false, false, false, false, false, false, false, false, false, false, false, false, false, false, false, false, false, false] (by kernel_rfl) rfl rfl trivial (fun hHeld => ?_); refine with_tabW r07_Chunks.tab22 r07_Chunks.bits22 (fun HT_ HW_ => ?_)
                           generalize wr.drew = w48 at HO_7 HO_8 HO_9 HB HR287 HR288 HR289 hHeld ⊢
                           refine pure_ (i := 0) (N := some 118) (v := ?_) (a' := ?_) #[true, false, false, false, false, false, false, false, false, false, false, false, false, false, false, false, false, false, false, false, false, false, false, false, false, false, false] rfl rfl (any_of HT_.out (by kernel_rfl)) (fun _ _ _ h => h) (Or.inl ⟨by rfl, ?_⟩) ?_ ?_
                           rotate_left
                           ·intro w'
                            go_simp
                            with_reducible rfl
                           rotate_left
                           ·simp only [Act.put, List.setIfInBounds_toArray, List.set_cons_zero, List.set_cons_succ, i64_w, i32_w]
                            rfl
                           refine pure_ (i := 1) (N := some 119) (v := ?_) (a' := ?_) #[true, true, false, false, false, false, false, false, false, false, false, false, false, false, false, false, false, false, false, false, false, false, false, false, false, false, false] rfl rfl (any_of HT_.out (by kernel_rfl)) (fun _ _ _ h => h) (Or.inl ⟨by rfl, ?_⟩) ?_ ?_
                           rotate_left
                           ·intro w'
                            go_simp
                            with_reducible rfl
                           rotate_left
                           ·simp only [Act.put, List.setIfInBounds_toArray, List.set_cons_zero, List.set_cons_succ, i64_w, i32_w]
                            rfl
                           refine pure_ (i := 2) (N := some 120) (v := ?_) (a' := ?_) #[true, true, true, false, false, false, false, false, false, false, false, false, false, false, false, false, false, false, false, false, false, false, false, false, false, false, false] rfl rfl (any_of HT_.out (by kernel_rfl)) (fun _ _ _ h => h) (Or.inl ⟨by rfl, ?_⟩) ?_ ?_
                           rotate_left
                           ·intro w'
                            go_simp
                            with_reducible rfl
                           rotate_left
                           ·simp only [Act.put, List.setIfInBounds_toArray, List.set_cons_zero, List.set_cons_succ, i64_w, i32_w]
                            rfl
                           refine pure_ (i := 3) (N := some 121) (v := ?_) (a' := ?_) #[true, true, true, true, false, false, false, false, false, false, false, false, false, false, false, false, false, false, false, false, false, false, false, false, false, false, false] rfl rfl (any_of HT_.out (by kernel_rfl)) (fun _ _ _ h => h) (Or.inl ⟨by rfl, ?_⟩) ?_ ?_
                           rotate_left
                           ·intro w'
                            go_simp
                            with_reducible rfl
                           rotate_left
                           ·simp only [Act.put, List.setIfInBounds_toArray, List.set_cons_zero, List.set_cons_succ, i64_w, i32_w]
                            rfl
                           refine pure_ (i := 4) (N := some 122) (v := ?_) (a' := ?_) #[true, true, true, true, true, false, false, false, false, false, false, false, false, false, false, false, false, false, false, false, false, false, false, false, false, false, false] rfl rfl (any_of HT_.out (by kernel_rfl)) (fun _ _ _ h => h) (Or.inl ⟨by rfl, ?_⟩) ?_ ?_
                           rotate_left
                           ·intro w'
                            go_simp
                            with_reducible rfl
                           rotate_left
                           ·simp only [Act.put, List.setIfInBounds_toArray, List.set_cons_zero, List.set_cons_succ, i64_w, i32_w]
                            rfl
                           refine pure_ (i := 5) (N := some 123) (v := ?_) (a' := ?_) #[true, true, true, true, true, true, false, false, false, false, false, false, false, false, false, false, false, false, false, false, false, false, false, false, false, false, false] rfl rfl (any_of HT_.out (by kernel_rfl)) (fun _ _ _ h => h) (Or.inl ⟨by rfl, ?_⟩) ?_ ?_
                           rotate_left
                           ·intro w'
                            go_simp
                            with_reducible rfl
                           rotate_left
                           ·simp only [Act.put, List.setIfInBounds_toArray, List.set_cons_zero, List.set_cons_succ, i64_w, i32_w]
                            rfl
                           refine pure_ (i := 6) (N := some 124) (v := ?_) (a' := ?_) #[true, true, true, true, true, true, true, false, false, false, false, false, false, false, false, false, false, false, false, false, false, false, false, false, false, false, false] rfl rfl (any_of HT_.out (by kernel_rfl)) (fun _ _ _ h => h) (Or.inl ⟨by rfl, ?_⟩) ?_ ?_
                           rotate_left
                           ·intro w'
                            go_simp
                            with_reducible rfl
                           rotate_left
                           ·simp only [Act.put, List.setIfInBounds_toArray, List.set_cons_zero, List.set_cons_succ, i64_w, i32_w]
                            rfl
                           refine pure_ (i := 7) (N := some 125) (v := ?_) (a' := ?_) #[true, true, true, true, true, true, true, true, false, false, false, false, false, false, false, false, false, false, false, false, false, false, false, false, false, false, false] rfl rfl (any_of HT_.out (by kernel_rfl)) (fun _ _ _ h => h) (Or.inl ⟨by rfl, ?_⟩) ?_ ?_
                           rotate_left
                           ·intro w'
                            go_simp
                            with_reducible rfl
                           rotate_left
                           ·simp only [Act.put, List.setIfInBounds_toArray, List.set_cons_zero, List.set_cons_succ, i64_w, i32_w]
                            rfl
                           refine pure_ (i := 8) (N := some 126) (v := ?_) (a' := ?_) #[true, true, true, true, true, true, true, true, true, false, false, false, false, false, false, false, false, false, false, false, false, false, false, false, false, false, false] rfl rfl (any_of HT_.out (by kernel_rfl)) (fun _ _ _ h => h) (Or.inl ⟨by rfl, ?_⟩) ?_ ?_
                           rotate_left
                           ·intro w'
                            go_simp
                            with_reducible rfl
                           rotate_left
                           ·simp only [Act.put, List.setIfInBounds_toArray, List.set_cons_zero, List.set_cons_succ, i64_w, i32_w]
                            rfl
                           refine pure_ (i := 9) (N := some 127) (v := ?_) (a' := ?_) #[true, true, true, true, true, true, true, true, true, true, false, false, false, false, false, false, false, false, false, false, false, false, false, false, false, false, false] rfl rfl (any_of HT_.out (by kernel_rfl)) (fun _ _ _ h => h) (Or.inl ⟨by rfl, ?_⟩) ?_ ?_
                           rotate_left
                           ·intro w'
                            go_simp
                            with_reducible rfl
                           rotate_left
                           ·simp only [Act.put, List.setIfInBounds_toArray, List.set_cons_zero, List.set_cons_succ, i64_w, i32_w]
                            rfl
                           refine pure_ (i := 10) (N := some 128) (v := ?_) (a' := ?_) #[true, true, true, true, true, true, true, true, true, true, true, false, false, false, false, false, false, false, false, false, false, false, false, false, false, false, false] rfl rfl (any_of HT_.out (by kernel_rfl)) (fun _ _ _ h => h) (Or.inl ⟨by rfl, ?_⟩) ?_ ?_
                           rotate_left
                           ·intro w'
                            go_simp
                            with_reducible rfl
                           rotate_left
                           ·simp only [Act.put, List.setIfInBounds_toArray, List.set_cons_zero, List.set_cons_succ, i64_w, i32_w]
                            rfl
                           refine pure_ (i := 11) (N := some 129) (v := ?_) (a' := ?_) #[true, true, true, true, true, true, true, true, true, true, true, true, false, false, false, false, false, false, false, false, false, false, false, false, false, false, false] rfl rfl (any_of HT_.out (by kernel_rfl)) (fun _ _ _ h => h) (Or.inl ⟨by rfl, ?_⟩) ?_ ?_
                           rotate_left
                           ·intro w'
                            go_simp
                            with_reducible rfl
                           rotate_left
                           ·simp only [Act.put, List.setIfInBounds_toArray, List.set_cons_zero, List.set_cons_succ, i64_w, i32_w]
                            rfl
                           refine pure_ (i := 12) (N := some 130) (v := ?_) (a' := ?_) #[true, true, true, true, true, true, true, true, true, true, true, true, true, false, false, false, false, false, false, false, false, false, false, false, false, false, false] rfl rfl (any_of HT_.out (by kernel_rfl)) (fun _ _ _ h => h) (Or.inl ⟨by rfl, ?_⟩) ?_ ?_
                           rotate_left
                           ·intro w'
                            go_simp
                            with_reducible rfl
                           rotate_left
                           ·simp only [Act.put, List.setIfInBounds_toArray, List.set_cons_zero, List.set_cons_succ, i64_w, i32_w]
                            rfl
                           refine pure_ (i := 14) (N := some 132) (v := ?_) (a' := ?_) #[true, true, true, true, true, true, true, true, true, true, true, true, true, false, true, false, false, false, false, false, false, false, false, false, false, false, false] rfl rfl (any_of HT_.out (by kernel_rfl)) (fun _ _ _ h => h) (Or.inl ⟨by rfl, ?_⟩) ?_ ?_
                           rotate_left
                           ·intro w'
                            go_simp
                            with_reducible rfl
                           rotate_left
                           ·simp only [Act.put, List.setIfInBounds_toArray, List.set_cons_zero, List.set_cons_succ, i64_w, i32_w]
                            rfl
                           refine pure_ (i := 15) (N := some 133) (v := ?_) (a' := ?_) #[true, true, true, true, true, true, true, true, true, true, true, true, true, false, true, true, false, false, false, false, false, false, false, false, false, false, false] rfl rfl (any_of HT_.out (by kernel_rfl)) (fun _ _ _ h => h) (Or.inl ⟨by rfl, ?_⟩) ?_ ?_
                           rotate_left
                           ·intro w'
                            go_simp
                            with_reducible rfl
                           rotate_left
                           ·simp only [Act.put, List.setIfInBounds_toArray, List.set_cons_zero, List.set_cons_succ, i64_w, i32_w]
                            rfl
                           refine pure_ (i := 16) (N := some 134) (v := ?_) (a' := ?_) #[true, true, true, true, true, true, true, true, true, true, true, true, true, false, true, true, true, false, false, false, false, false, false, false, false, false, false] rfl rfl (any_of HT_.out (by kernel_rfl)) (fun _ _ _ h => h) (Or.inl ⟨by rfl, ?_⟩) ?_ ?_
                           rotate_left
                           ·intro w'
                            go_simp
                            with_reducible rfl
                           rotate_left
                           ·simp only [Act.put, List.setIfInBounds_toArray, List.set_cons_zero, List.set_cons_succ, i64_w, i32_w]
                            rfl
                           refine pure_ (i := 17) (N := some 135) (v := ?_) (a' := ?_) #[true, true, true, true, true, true, true, true, true, true, true, true, true, false, true, true, true, true, false, false, false, false, false, false, false, false, false] rfl rfl (any_of HT_.out (by kernel_rfl)) (fun _ _ _ h => h) (Or.inl ⟨by rfl, ?_⟩) ?_ ?_
                           rotate_left
                           ·intro w'
                            go_simp
                            with_reducible rfl
                           rotate_left
                           ·simp only [Act.put, List.setIfInBounds_toArray, List.set_cons_zero, List.set_cons_succ, i64_w, i32_w]
                            rfl
                           refine pure_ (i := 18) (N := some 136) (v := ?_) (a' := ?_) #[true, true, true, true, true, true, true, true, true, true, true, true, true, false, true, true, true, true, true, false, false, false, false, false, false, false, false] rfl rfl (any_of HT_.out (by kernel_rfl)) (fun _ _ _ h => h) (Or.inl ⟨by rfl, ?_⟩) ?_ ?_
                           rotate_left
                           ·intro w'
                            go_simp
                            with_reducible rfl
                           rotate_left
                           ·simp only [Act.put, List.setIfInBounds_toArray, List.set_cons_zero, List.set_cons_succ, i64_w, i32_w]
                            rfl
                           refine pure_ (i := 19) (N := some 137) (v := ?_) (a' := ?_) #[true, true, true, true, true, true, true, true, true, true, true, true, true, false, true, true, true, true, true, true, false, false, false, false, false, false, false] rfl rfl (any_of HT_.out (by kernel_rfl)) (fun _ _ _ h => h) (Or.inl ⟨by rfl, ?_⟩) ?_ ?_
                           rotate_left
                           ·intro w'
                            go_simp
                            with_reducible rfl
                           rotate_left
                           ·simp only [Act.put, List.setIfInBounds_toArray, List.set_cons_zero, List.set_cons_succ, i64_w, i32_w]
                            rfl
                           refine pure_ (i := 20) (N := some 138) (v := ?_) (a' := ?_) #[true, true, true, true, true, true, true, true, true, true, true, true, true, false, true, true, true, true, true, true, true, false, false, false, false, false, false] rfl rfl (any_of HT_.out (by kernel_rfl)) (fun _ _ _ h => h) (Or.inl ⟨by rfl, ?_⟩) ?_ ?_
                           rotate_left
                           ·intro w'
                            go_simp
                            with_reducible rfl
                           rotate_left
                           ·simp only [Act.put, List.setIfInBounds_toArray, List.set_cons_zero, List.set_cons_succ, i64_w, i32_w]
                            rfl
                           refine pure_ (i := 21) (N := some 139) (v := ?_) (a' := ?_) #[true, true, true, true, true, true, true, true, true, true, true, true, true, false, true, true, true, true, true, true, true, true, false, false, false, false, false] rfl rfl (any_of HT_.out (by kernel_rfl)) (fun _ _ _ h => h) (Or.inl ⟨by rfl, ?_⟩) ?_ ?_
                           rotate_left
                           ·intro w'
                            go_simp
                            with_reducible rfl
                           rotate_left
                           ·simp only [Act.put, List.setIfInBounds_toArray, List.set_cons_zero, List.set_cons_succ, i64_w, i32_w]
                            rfl
                           refine pure_ (i := 22) (N := some 140) (v := ?_) (a' := ?_) #[true, true, true, true, true, true, true, true, true, true, true, true, true, false, true, true, true, true, true, true, true, true, true, false, false, false, false] rfl rfl (any_of HT_.out (by kernel_rfl)) (fun _ _ _ h => h) (Or.inl ⟨by rfl, ?_⟩) ?_ ?_
                           rotate_left
                           ·intro w'
                            go_simp
                            with_reducible rfl
                           rotate_left
                           ·simp only [Act.put, List.setIfInBounds_toArray, List.set_cons_zero, List.set_cons_succ, i64_w, i32_w]
                            rfl
                           refine one_ (i := 13) (N := some 131) #[true, true, true, true, true, true, true, true, true, true, true, true, true, true, true, true, true, true, true, true, true, true, true, false, false, false, false] rfl rfl (one_of HT_.out (by kernel_rfl)) (by decide) (fun K hK => ?_)
                           refine goes_ Try.func27 (by kernel_rfl) rfl #[.slice A49 ((l0.take (x14_4 : Int).toNat).drop (x10_1 : Int).toNat).length (c0 - x10_1.toNat), .slice A50 ((l1.take ((rd t275 x14_4) : Int).toNat).drop (x11_1 : Int).toNat).length (c1 - x11_1.toNat), .slice A51 ((l2.take ((rd t278 x14_4) : Int).toNat).drop (x12_1 : Int).toNat).length (c2 - x12_1.toNat)] (by rfl) rfl rfl (by (try simp only [List.map_toArray, List.map_cons, List.map_nil]); first | done | (rw [show ((l0.take (x14_4 : Int).toNat).drop (x10_1 : Int).toNat).length = (x14_4.toNat - x10_1.toNat) from (by rw [List.length_drop, List.length_take]; have h_ : (x14_4 : Int) ≤ (l0.length : Int) := Zo (by first | (with_reducible assumption) | assumption); omega)] <;> rfl) | (rw [show ((l1.take ((rd t275 x14_4) : Int).toNat).drop (x11_1 : Int).toNat).length = ((rd t275 x14_4).toNat - x11_1.toNat) from (by rw [List.length_drop, List.length_take]; have h_ : ((rd t275 x14_4) : Int) ≤ (l1.length : Int) := Zo (by first | (with_reducible assumption) | assumption); omega)] <;> rfl) | (rw [show ((l2.take ((rd t278 x14_4) : Int).toNat).drop (x12_1 : Int).toNat).length = ((rd t278 x14_4).toNat - x12_1.toNat) from (by rw [List.length_drop, List.length_take]; have h_ : ((rd t278 x14_4) : Int) ≤ (l2.length : Int) := Zo (by first | (with_reducible assumption) | assumption); omega)] <;> rfl) | ((try rw [show ((l0.take (x14_4 : Int).toNat).drop (x10_1 : Int).toNat).length = (x14_4.toNat - x10_1.toNat) from (by rw [List.length_drop, List.length_take]; have h_ : (x14_4 : Int) ≤ (l0.length : Int) := Zo (by first | (with_reducible assumption) | assumption); omega)]); (try rw [show ((l1.take ((rd t275 x14_4) : Int).toNat).drop (x11_1 : Int).toNat).length = ((rd t275 x14_4).toNat - x11_1.toNat) from (by rw [List.length_drop, List.length_take]; have h_ : ((rd t275 x14_4) : Int) ≤ (l1.length : Int) := Zo (by first | (with_reducible assumption) | assumption); omega)]); (try rw [show ((l2.take ((rd t278 x14_4) : Int).toNat).drop (x12_1 : Int).toNat).length = ((rd t278 x14_4).toNat - x12_1.toNat) from (by rw [List.length_drop, List.length_take]; have h_ : ((rd t278 x14_4) : Int) ≤ (l2.length : Int) := Zo (by first | (with_reducible assumption) | assumption); omega)]); rfl) | rfl | (simp only [List.length_drop, List.length_take]; rfl)) ?_
                           with_reducible refine (r07_kind.calls k4 _ _ ((l0.take (x14_4 : Int).toNat).drop (x10_1 : Int).toNat) _ _ ((l1.take ((rd t275 x14_4) : Int).toNat).drop (x11_1 : Int).toNat) _ _ ((l2.take ((rd t278 x14_4) : Int).toNat).drop (x12_1 : Int).toNat) t290 _ ?side1 ?side2 ?side3 ?side4 ?side5 ?side6 A44.out).mono ?_
                           (case side1 => repeat (first | exact (Kd.C_below HR287.out HB.out) | (with_reducible refine Kd.C_alloc ?_ _) | (with_reducible refine Kd.C_drewN ?_ _) | (with_reducible refine Kd.C_drew ?_)))
                           (case side2 => exact HC287.out)
                           (case side3 => repeat (first | exact (Kd.C_below HR288.out HB.out) | (with_reducible refine Kd.C_alloc ?_ _) | (with_reducible refine Kd.C_drewN ?_ _) | (with_reducible refine Kd.C_drew ?_)))
                           (case side4 => exact HC288.out)
                           (case side5 => repeat (first | exact (Kd.C_below HR289.out HB.out) | (with_reducible refine Kd.C_alloc ?_ _) | (with_reducible refine Kd.C_drewN ?_ _) | (with_reducible refine Kd.C_drew ?_)))
                           (case side6 => exact HC289.out)
                           rintro e w' ⟨rfl, ⟨nd, rfl⟩⟩
                           refine ⟨_, rfl, ?_⟩
                           refine hK.out _ _ trivial (fun hHeld => ?_)
                           clear hK K
                           refine norm_ (a' := ?_) ?_ ?_
                           rotate_left
                           ·show Act.put _ (some 131) _ = _
                            simp only [Act.put, List.setIfInBounds_toArray, List.set_cons_zero, List.set_cons_succ, i64_w, i32_w]
                            rfl
                           refine pure_ (i := 23) (N := some 141) (v := ?_) (a' := ?_) #[true, true, true, true, true, true, true, true, true, true, true, true, true, true, true, true, true, true, true, true, true, true, true, true, false, false, false] rfl rfl (any_of HT_.out (by kernel_rfl)) (fun _ _ _ h => h) (Or.inl ⟨by rfl, ?_⟩) ?_ ?_
                           rotate_left
                           ·intro w'
                            go_simp
                            with_reducible rfl
                           rotate_left
                           ·simp only [Act.put, List.setIfInBounds_toArray, List.set_cons_zero, List.set_cons_succ, i64_w, i32_w]
                            rfl
                           refine one_ (i := 24) (N := some 142) #[true, true, true, true, true, true, true, true, true, true, true, true, true, true, true, true, true, true, true, true, true, true, true, true, true, false, false] rfl rfl (one_of HT_.out (by kernel_rfl)) (by decide) (fun K hK => ?_)
                           refine value_ (w1 := ?_) (v := ?_) (by rfl) rfl ?_ ?_
                           rotate_left 2
                           ·go_simp
                            constructor
                            ·rfl
                            ·rfl
                           refine hK.out _ _ trivial (fun hHeld => ?_)
                           clear hK K
                           refine norm_ (a' := ?_) ?_ ?_
                           rotate_left
                           ·show Act.put _ (some 142) _ = _
                            simp only [Act.put, List.setIfInBounds_toArray, List.set_cons_zero, List.set_cons_succ, i64_w, i32_w]
                            rfl
                           refine one_ (i := 25) (N := some 143) #[true, true, true, true, true, true, true, true, true, true, true, true, true, true, true, true, true, true, true, true, true, true, true, true, true, true, false] rfl rfl (one_of HT_.out (by kernel_rfl)) (by decide) (fun K hK => ?_)
                           refine Kd.R_append_step k41 (w0 := w) w.heap.size (by rfl) (.tmp 118) (.tmp 142) 25 41 (.agg #[(.int .i64 0), (.int .i64 0), (.int .i64 0), (.int .i64 0), (.int .i64 0), (.int .i64 0), (.int .i64 0)]) 56 rfl Try.underlying25 info41 rfl (by decide) (by omega) u9 x9_1 (⟨t290, (⟨x10_1, x14_4⟩ : S39), (⟨x11_1, rd t275 x14_4⟩ : S39), (⟨x12_1, rd t278 x14_4⟩ : S39)⟩ : S41) [.int .i64 t290, .int .i64 x10_1, .int .i64 x14_4, .int .i64 x11_1, .int .i64 (rd t275 x14_4), .int .i64 x12_1, .int .i64 (rd t278 x14_4)] (fun _ => True) (fun _ => False) rfl rfl ?aP (fun _ hk => hk.elim) ?aF ?aO ?aB ?aS ?aL ?_
                           (case aP => exact k41_mkM _ _ _ (⟨t290, (⟨x10_1, x14_4⟩ : S39), (⟨x11_1, rd t275 x14_4⟩ : S39), (⟨x12_1, rd t278 x14_4⟩ : S39)⟩ : S41))
                           (case aB => exact (by repeat (first | (with_reducible first | exact HB.out | apply below_alloc | apply Zd | apply below_drew1) | exact HB.out)))
                           (case aF => exact (fun _ _ => trivial))
                           (case aO => exact (by (with_reducible repeat (first | apply Kd.R_alloc | apply Kd.R_drewN | apply Kd.R_drew)); exact HO_9.out))
                           (case aS => exact (below_size (by repeat (first | (with_reducible first | exact HB.out | apply below_alloc | apply Zd | apply below_drew1) | exact HB.out))))
                           (case aL => have := LMc45.out; omega)
                           intro v292 w52 ho hb hg hat
                           rw [← Ny291.out] at ho
                           have n0_ := Zm (Kd.R_over' (by (with_reducible repeat (first | apply Kd.R_alloc | apply Kd.R_drewN | apply Kd.R_drew)); exact HO_7.out) (Kd.R_typed (by (with_reducible repeat (first | apply Kd.R_alloc | apply Kd.R_drewN | apply Kd.R_drew)); exact HO_9.out)) (by decide) hg)
                           have n1_ := Zm (Kd.R_over' (by (with_reducible repeat (first | apply Kd.R_alloc | apply Kd.R_drewN | apply Kd.R_drew)); exact HO_8.out) (Kd.R_typed (by (with_reducible repeat (first | apply Kd.R_alloc | apply Kd.R_drewN | apply Kd.R_drew)); exact HO_9.out)) (by decide) hg)
                           have n2_ := Zm (hb)
                           have n3_ := Zm (ho)
                           clear HO_7
                           clear HO_8
                           clear HB
                           clear HO_9
                           have HO_7 := n0_
                           have HO_8 := n1_
                           have HB := n2_
                           have HO293 := n3_
                           clear n0_ n1_ n2_ n3_
                           clear ho hb hg hat
                           refine hK.out _ _ trivial (fun hHeld => ?_)
                           clear hK K
                           refine norm_ (a' := ?_) ?_ ?_
                           rotate_left
                           ·show Act.put _ (some 143) _ = _
                            simp only [Act.put, List.setIfInBounds_toArray, List.set_cons_zero, List.set_cons_succ, i64_w, i32_w]
                            rfl
                           refine pure_ (i := 26) (N := some 9) (v := ?_) (a' := ?_) #[true, true, true, true, true, true, true, true, true, true, true, true, true, true, true, true, true, true, true, true, true, true, true, true, true, true, true] rfl rfl (any_of HT_.out (by kernel_rfl)) (fun _ _ _ h => h) (Or.inl ⟨by rfl, ?_⟩) ?_ ?_
                           rotate_left
                           ·intro w'
                            go_simp
                            with_reducible rfl
                           rotate_left
                           ·simp only [Act.put, List.setIfInBounds_toArray, List.set_cons_zero, List.set_cons_succ, i64_w, i32_w]
                            rfl
                           refine done_ (done_of HT_.out (by kernel_rfl)) ?_
                           try go_wp2
                           go_roundg k4
                           case measure => have := HK1.out; have := HJ7.out; have := HJ11.out; have := HK4.out; omega
                           case rel => exact ⟨(y291), (x14_4), (rd t275 x14_4), (rd t278 x14_4), (by first | rfl | (simp; done) | (simp [*]; done)), (by first | rfl | (simp; done) | (simp [*]; done)), (by first | rfl | (simp; done) | (simp [*]; done)), H', ⟨by have := HK1.out; have := HJ7.out; have := HJ11.out; have := HK4.out; omega⟩, ⟨by (with_reducible repeat (first | apply Kd.R_alloc | apply Kd.R_drewN | apply Kd.R_drew)); first | exact HO_7.out | exact Kd.R_mono HO_7.out (fun _ _ => trivial)⟩, ⟨by (with_reducible repeat (first | apply Kd.R_alloc | apply Kd.R_drewN | apply Kd.R_drew)); first | exact HO_8.out | exact Kd.R_mono HO_8.out (fun _ _ => trivial)⟩, ⟨by (with_reducible repeat (first | apply Kd.R_alloc | apply Kd.R_drewN | apply Kd.R_drew)); first | exact HO293.out | exact Kd.R_mono HO293.out (fun _ _ => trivial)⟩, ⟨by repeat (first | (with_reducible first | exact HB.out | apply below_alloc | apply Zd | apply below_drew1) | exact HB.out)⟩⟩
                          ·rw [if_neg c45] at H
                           exact absurd H (by simp)
                         ·rw [if_neg c43] at H
                          exact absurd H (by simp)
                        ·rw [if_neg c42] at H
                         exact absurd H (by simp)
                       ·rw [if_neg c41] at H
                        exact absurd H (by simp)
                      ·rw [if_neg c40] at H
                       exact absurd H (by simp)
                     ·rw [if_neg c39] at H
                      exact absurd H (by simp)
                    ·rw [if_neg c38] at H
                     exact absurd H (by simp)
                   ·rw [if_neg c37] at H
                    exact absurd H (by simp)
                  ·rw [if_neg c36] at H
                   exact absurd H (by simp)
                 ·rw [if_neg c35] at H
                  exact absurd H (by simp)
               ·rw [if_neg c31] at H
                exact absurd H (by simp)
             ·rw [if_neg c28] at H
              exact absurd H (by simp)
            ·rw [if_neg c27] at H
             exact absurd H (by simp)
           ·rw [if_neg c26] at H
            have c26b0 : decide (x14_4 < (l0.length : Int)) = false := decide_eq_false c26
            clear c26
            by_cases c53 : 0 ≤ x10_1
            ·rw [if_pos c53] at H
             have c53b0 := eq_true c53
             have c53b1 : decide (0 ≤ x10_1) = true := decide_eq_true c53
             clear c53
             by_cases c54 : x10_1 ≤ x14_4
             ·rw [if_pos c54] at H
              have c54b0 := eq_true c54
              have c54b1 : decide (x10_1 ≤ x14_4) = true := decide_eq_true c54
              clear c54
              by_cases c55 : x14_4 ≤ (l0.length : Int)
              ·rw [if_pos c55] at H
               have c55b0 := eq_true c55
               have c55b1 : decide (x14_4 ≤ (l0.length : Int)) = true := decide_eq_true c55
               clear c55
               by_cases c56 : 0 ≤ x11_1
               ·rw [if_pos c56] at H
                have c56b0 := eq_true c56
                have c56b1 : decide (0 ≤ x11_1) = true := decide_eq_true c56
                clear c56
                by_cases c57 : x11_1 ≤ (l1.length : Int)
                ·rw [if_pos c57] at H
                 have c57b0 := eq_true c57
                 have c57b1 : decide (x11_1 ≤ (l1.length : Int)) = true := decide_eq_true c57
                 clear c57
                 by_cases c58 : (l1.length : Int) ≤ (l1.length : Int)
                 ·rw [if_pos c58] at H
                  have c58b0 := eq_true c58
                  have c58b1 : decide ((l1.length : Int) ≤ (l1.length : Int)) = true := decide_eq_true c58
                  clear c58
                  by_cases c59 : 0 ≤ x12_1
                  ·rw [if_pos c59] at H
                   have c59b0 := eq_true c59
                   have c59b1 : decide (0 ≤ x12_1) = true := decide_eq_true c59
                   clear c59
                   by_cases c60 : x12_1 ≤ (l2.length : Int)
                   ·rw [if_pos c60] at H
                    have c60b0 := eq_true c60
                    have c60b1 : decide (x12_1 ≤ (l2.length : Int)) = true := decide_eq_true c60
                    clear c60
                    by_cases c61 : (l2.length : Int) ≤ (l2.length : Int)
                    ·rw [if_pos c61] at H
                     have c61b0 := eq_true c61
                     have c61b1 : decide ((l2.length : Int) ≤ (l2.length : Int)) = true := decide_eq_true c61
                     clear c61
                     replace H := Option.bind_eq_some_iff.mp H
                     obtain ⟨t297, A620, H⟩ := H
                     replace H : (if x9_1.length < 2513169434916 then (r07_Chunks.l0 k4 l0 l1 l2 t275 t278 (x9_1 ++ [(⟨t297, (⟨x10_1, x14_4⟩ : S39), (⟨x11_1, (l1.length : Int)⟩ : S39), (⟨x12_1, (l2.length : Int)⟩ : S39)⟩ : S41)]) x14_4 (l1.length : Int) (l2.length : Int)) else (none)) = some r := H
                     have A62 := Zm A620
                     clear A620
                     by_cases c63 : x9_1.length < 2513169434916
                     ·rw [if_pos c63] at H
                      have LMc63 := Zm c63
                      clear c63
                      obtain ⟨y298, hy298⟩ : ∃ y_ : List (S41), y_ = (x9_1 ++ [(⟨t297, (⟨x10_1, x14_4⟩ : S39), (⟨x11_1, (l1.length : Int)⟩ : S39), (⟨x12_1, (l2.length : Int)⟩ : S39)⟩ : S41)]) := ⟨_, rfl⟩
                      replace H : (r07_Chunks.l0 k4 l0 l1 l2 t275 t278 y298 x14_4 (l1.length : Int) (l2.length : Int)) = some r := by first | (rw [hy298]; with_reducible exact H) | (have H2_ := (Option.bind_some _ _).symm.trans H; rw [hy298]; with_reducible exact H2_) | (have H2_ := (Option.bind_some _ _).symm.trans H; with_reducible exact H2_) | with_reducible exact H | (rw [hy298]; exact H) | exact H
                      have Ny298 := Zm hy298
                      clear hy298
                      have H' := Zm H
                      clear H
                      try go_wp2
                      have n0_ := Zm (Kd.R_drew HO_7.out)
                      have n1_ := Zm (Kd.R_drew HO_8.out)
                      have n2_ := Zm (Kd.R_drew HO_9.out)
                      have n3_ := Zm (below_drew1 HB.out)
                      clear HO_7
                      clear HO_8
                      clear HO_9
                      clear HB
                      have HO_7 := n0_
                      have HO_8 := n1_
                      have HO_9 := n2_
                      have HB := n3_
                      clear n0_ n1_ n2_ n3_
                      obtain ⟨i065, hi065, _, hsz65, _⟩ := info_parts info3
                      obtain ⟨A65, hcut65, hA65, hC65⟩ := print_mid_of (P := Try.prog) (Value.int .i64) 0 22 3 .i64 .i64 Try.underlying22 hi065 hsz65 A0 c0 l0 x10_1 x14_4 (Zo (by first | (with_reducible assumption) | assumption)) (by first | omega | exact Zo (by first | (with_reducible assumption) | assumption)) (Zo (by first | (with_reducible assumption) | assumption)) HC0.out
                      have HR294 := Zm (Kd.C_of_reads (h1 := fun _ => rfl) (hA65 _ (Kd.reads_of_C HR0.out)))
                      have HC294 := Zm hC65
                      clear hA65 hC65 hi065 hsz65
                      obtain ⟨i066, hi066, _, hsz66, _⟩ := info_parts info3
                      obtain ⟨A66, hcut66, hA66, hC66⟩ := print_mid_of (P := Try.prog) (Value.int .i64) 0 22 3 .i64 .i64 Try.underlying22 hi066 hsz66 A1 c1 l1 x11_1 (l1.length : Int) (Zo (by first | (with_reducible assumption) | assumption)) (by first | omega | exact Zo (by first | (with_reducible assumption) | assumption)) (Zo (by first | (with_reducible assumption) | assumption)) HC1.out
                      have HR295 := Zm (Kd.C_of_reads (h1 := fun _ => rfl) (hA66 _ (Kd.reads_of_C HR1.out)))
                      have HC295 := Zm hC66
                      clear hA66 hC66 hi066 hsz66
                      obtain ⟨i067, hi067, _, hsz67, _⟩ := info_parts info3
                      obtain ⟨A67, hcut67, hA67, hC67⟩ := print_mid_of (P := Try.prog) (Value.int .i64) 0 22 3 .i64 .i64 Try.underlying22 hi067 hsz67 A2 c2 l2 x12_1 (l2.length : Int) (Zo (by first | (with_reducible assumption) | assumption)) (by first | omega | exact Zo (by first | (with_reducible assumption) | assumption)) (Zo (by first | (with_reducible assumption) | assumption)) HC2.out
                      have HR296 := Zm (Kd.C_of_reads (h1 := fun _ => rfl) (hA67 _ (Kd.reads_of_C HR2.out)))
                      have HC296 := Zm hC67
                      clear hA67 hC67 hi067 hsz67
                      refine start_ (n := 27) (S := fun w' => True) (ds := []) #[false, false, false, false, false, false, false, false, false, false, false, false, false, false, false, false, false, false, false, false, false, false, false, false, false, false, false] (by kernel_rfl) rfl rfl trivial (fun hHeld => ?_); refine with_tabW r07_Chunks.tab22 r07_Chunks.bits22 (fun HT_ HW_ => ?_)
                      generalize wr.drew = w64 at HO_7 HO_8 HO_9 HB HR294 HR295 HR296 hHeld ⊢
                      refine pure_ (i := 0) (N := some 118) (v := ?_) (a' := ?_) #[true, false, false, false, false, false, false, false, false, false, false, false, false, false, false, false, false, false, false, false, false, false, false, false, false, false, false] rfl rfl (any_of HT_.out (by kernel_rfl)) (fun _ _ _ h => h) (Or.inl ⟨by rfl, ?_⟩) ?_ ?_
                      rotate_left
                      ·intro w'
                       go_simp
                       with_reducible rfl
                      rotate_left
                      ·simp only [Act.put, List.setIfInBounds_toArray, List.set_cons_zero, List.set_cons_succ, i64_w, i32_w]
                       rfl
                      refine pure_ (i := 1) (N := some 119) (v := ?_) (a' := ?_) #[true, true, false, false, false, false, false, false, false, false, false, false, false, false, false, false, false, false, false, false, false, false, false, false, false, false, false] rfl rfl (any_of HT_.out (by kernel_rfl)) (fun _ _ _ h => h) (Or.inl ⟨by rfl, ?_⟩) ?_ ?_
                      rotate_left
                      ·intro w'
                       go_simp
                       with_reducible rfl
                      rotate_left
                      ·simp only [Act.put, List.setIfInBounds_toArray, List.set_cons_zero, List.set_cons_succ, i64_w, i32_w]
                       rfl
                      refine pure_ (i := 2) (N := some 120) (v := ?_) (a' := ?_) #[true, true, true, false, false, false, false, false, false, false, false, false, false, false, false, false, false, false, false, false, false, false, false, false, false, false, false] rfl rfl (any_of HT_.out (by kernel_rfl)) (fun _ _ _ h => h) (Or.inl ⟨by rfl, ?_⟩) ?_ ?_
                      rotate_left
                      ·intro w'
                       go_simp
                       with_reducible rfl
                      rotate_left
                      ·simp only [Act.put, List.setIfInBounds_toArray, List.set_cons_zero, List.set_cons_succ, i64_w, i32_w]
                       rfl
                      refine pure_ (i := 3) (N := some 121) (v := ?_) (a' := ?_) #[true, true, true, true, false, false, false, false, false, false, false, false, false, false, false, false, false, false, false, false, false, false, false, false, false, false, false] rfl rfl (any_of HT_.out (by kernel_rfl)) (fun _ _ _ h => h) (Or.inl ⟨by rfl, ?_⟩) ?_ ?_
                      rotate_left
                      ·intro w'
                       go_simp
                       with_reducible rfl
                      rotate_left
                      ·simp only [Act.put, List.setIfInBounds_toArray, List.set_cons_zero, List.set_cons_succ, i64_w, i32_w]
                       rfl
                      refine pure_ (i := 4) (N := some 122) (v := ?_) (a' := ?_) #[true, true, true, true, true, false, false, false, false, false, false, false, false, false, false, false, false, false, false, false, false, false, false, false, false, false, false] rfl rfl (any_of HT_.out (by kernel_rfl)) (fun _ _ _ h => h) (Or.inl ⟨by rfl, ?_⟩) ?_ ?_
                      rotate_left
                      ·intro w'
                       go_simp
                       with_reducible rfl
                      rotate_left
                      ·simp only [Act.put, List.setIfInBounds_toArray, List.set_cons_zero, List.set_cons_succ, i64_w, i32_w]
                       rfl
                      refine pure_ (i := 5) (N := some 123) (v := ?_) (a' := ?_) #[true, true, true, true, true, true, false, false, false, false, false, false, false, false, false, false, false, false, false, false, false, false, false, false, false, false, false] rfl rfl (any_of HT_.out (by kernel_rfl)) (fun _ _ _ h => h) (Or.inl ⟨by rfl, ?_⟩) ?_ ?_
                      rotate_left
                      ·intro w'
                       go_simp
                       with_reducible rfl
                      rotate_left
                      ·simp only [Act.put, List.setIfInBounds_toArray, List.set_cons_zero, List.set_cons_succ, i64_w, i32_w]
                       rfl
                      refine pure_ (i := 6) (N := some 124) (v := ?_) (a' := ?_) #[true, true, true, true, true, true, true, false, false, false, false, false, false, false, false, false, false, false, false, false, false, false, false, false, false, false, false] rfl rfl (any_of HT_.out (by kernel_rfl)) (fun _ _ _ h => h) (Or.inl ⟨by rfl, ?_⟩) ?_ ?_
                      rotate_left
                      ·intro w'
                       go_simp
                       with_reducible rfl
                      rotate_left
                      ·simp only [Act.put, List.setIfInBounds_toArray, List.set_cons_zero, List.set_cons_succ, i64_w, i32_w]
                       rfl
                      refine pure_ (i := 7) (N := some 125) (v := ?_) (a' := ?_) #[true, true, true, true, true, true, true, true, false, false, false, false, false, false, false, false, false, false, false, false, false, false, false, false, false, false, false] rfl rfl (any_of HT_.out (by kernel_rfl)) (fun _ _ _ h => h) (Or.inl ⟨by rfl, ?_⟩) ?_ ?_
                      rotate_left
                      ·intro w'
                       go_simp
                       with_reducible rfl
                      rotate_left
                      ·simp only [Act.put, List.setIfInBounds_toArray, List.set_cons_zero, List.set_cons_succ, i64_w, i32_w]
                       rfl
                      refine pure_ (i := 8) (N := some 126) (v := ?_) (a' := ?_) #[true, true, true, true, true, true, true, true, true, false, false, false, false, false, false, false, false, false, false, false, false, false, false, false, false, false, false] rfl rfl (any_of HT_.out (by kernel_rfl)) (fun _ _ _ h => h) (Or.inl ⟨by rfl, ?_⟩) ?_ ?_
                      rotate_left
                      ·intro w'
                       go_simp
                       with_reducible rfl
                      rotate_left
                      ·simp only [Act.put, List.setIfInBounds_toArray, List.set_cons_zero, List.set_cons_succ, i64_w, i32_w]
                       rfl
                      refine pure_ (i := 9) (N := some 127) (v := ?_) (a' := ?_) #[true, true, true, true, true, true, true, true, true, true, false, false, false, false, false, false, false, false, false, false, false, false, false, false, false, false, false] rfl rfl (any_of HT_.out (by kernel_rfl)) (fun _ _ _ h => h) (Or.inl ⟨by rfl, ?_⟩) ?_ ?_
                      rotate_left
                      ·intro w'
                       go_simp
                       with_reducible rfl
                      rotate_left
                      ·simp only [Act.put, List.setIfInBounds_toArray, List.set_cons_zero, List.set_cons_succ, i64_w, i32_w]
                       rfl
                      refine pure_ (i := 10) (N := some 128) (v := ?_) (a' := ?_) #[true, true, true, true, true, true, true, true, true, true, true, false, false, false, false, false, false, false, false, false, false, false, false, false, false, false, false] rfl rfl (any_of HT_.out (by kernel_rfl)) (fun _ _ _ h => h) (Or.inl ⟨by rfl, ?_⟩) ?_ ?_
                      rotate_left
                      ·intro w'
                       go_simp
                       with_reducible rfl
                      rotate_left
                      ·simp only [Act.put, List.setIfInBounds_toArray, List.set_cons_zero, List.set_cons_succ, i64_w, i32_w]
                       rfl
                      refine pure_ (i := 11) (N := some 129) (v := ?_) (a' := ?_) #[true, true, true, true, true, true, true, true, true, true, true, true, false, false, false, false, false, false, false, false, false, false, false, false, false, false, false] rfl rfl (any_of HT_.out (by kernel_rfl)) (fun _ _ _ h => h) (Or.inl ⟨by rfl, ?_⟩) ?_ ?_
                      rotate_left
                      ·intro w'
                       go_simp
                       with_reducible rfl
                      rotate_left
                      ·simp only [Act.put, List.setIfInBounds_toArray, List.set_cons_zero, List.set_cons_succ, i64_w, i32_w]
                       rfl
                      refine pure_ (i := 12) (N := some 130) (v := ?_) (a' := ?_) #[true, true, true, true, true, true, true, true, true, true, true, true, true, false, false, false, false, false, false, false, false, false, false, false, false, false, false] rfl rfl (any_of HT_.out (by kernel_rfl)) (fun _ _ _ h => h) (Or.inl ⟨by rfl, ?_⟩) ?_ ?_
                      rotate_left
                      ·intro w'
                       go_simp
                       with_reducible rfl
                      rotate_left
                      ·simp only [Act.put, List.setIfInBounds_toArray, List.set_cons_zero, List.set_cons_succ, i64_w, i32_w]
                       rfl
                      refine pure_ (i := 14) (N := some 132) (v := ?_) (a' := ?_) #[true, true, true, true, true, true, true, true, true, true, true, true, true, false, true, false, false, false, false, false, false, false, false, false, false, false, false] rfl rfl (any_of HT_.out (by kernel_rfl)) (fun _ _ _ h => h) (Or.inl ⟨by rfl, ?_⟩) ?_ ?_
                      rotate_left
                      ·intro w'
                       go_simp
                       with_reducible rfl
                      rotate_left
                      ·simp only [Act.put, List.setIfInBounds_toArray, List.set_cons_zero, List.set_cons_succ, i64_w, i32_w]
                       rfl
                      refine pure_ (i := 15) (N := some 133) (v := ?_) (a' := ?_) #[true, true, true, true, true, true, true, true, true, true, true, true, true, false, true, true, false, false, false, false, false, false, false, false, false, false, false] rfl rfl (any_of HT_.out (by kernel_rfl)) (fun _ _ _ h => h) (Or.inl ⟨by rfl, ?_⟩) ?_ ?_
                      rotate_left
                      ·intro w'
                       go_simp
                       with_reducible rfl
                      rotate_left
                      ·simp only [Act.put, List.setIfInBounds_toArray, List.set_cons_zero, List.set_cons_succ, i64_w, i32_w]
                       rfl
                      refine pure_ (i := 16) (N := some 134) (v := ?_) (a' := ?_) #[true, true, true, true, true, true, true, true, true, true, true, true, true, false, true, true, true, false, false, false, false, false, false, false, false, false, false] rfl rfl (any_of HT_.out (by kernel_rfl)) (fun _ _ _ h => h) (Or.inl ⟨by rfl, ?_⟩) ?_ ?_
                      rotate_left
                      ·intro w'
                       go_simp
                       with_reducible rfl
                      rotate_left
                      ·simp only [Act.put, List.setIfInBounds_toArray, List.set_cons_zero, List.set_cons_succ, i64_w, i32_w]
                       rfl
                      refine pure_ (i := 17) (N := some 135) (v := ?_) (a' := ?_) #[true, true, true, true, true, true, true, true, true, true, true, true, true, false, true, true, true, true, false, false, false, false, false, false, false, false, false] rfl rfl (any_of HT_.out (by kernel_rfl)) (fun _ _ _ h => h) (Or.inl ⟨by rfl, ?_⟩) ?_ ?_
                      rotate_left
                      ·intro w'
                       go_simp
                       with_reducible rfl
                      rotate_left
                      ·simp only [Act.put, List.setIfInBounds_toArray, List.set_cons_zero, List.set_cons_succ, i64_w, i32_w]
                       rfl
                      refine pure_ (i := 18) (N := some 136) (v := ?_) (a' := ?_) #[true, true, true, true, true, true, true, true, true, true, true, true, true, false, true, true, true, true, true, false, false, false, false, false, false, false, false] rfl rfl (any_of HT_.out (by kernel_rfl)) (fun _ _ _ h => h) (Or.inl ⟨by rfl, ?_⟩) ?_ ?_
                      rotate_left
                      ·intro w'
                       go_simp
                       with_reducible rfl
                      rotate_left
                      ·simp only [Act.put, List.setIfInBounds_toArray, List.set_cons_zero, List.set_cons_succ, i64_w, i32_w]
                       rfl
                      refine pure_ (i := 19) (N := some 137) (v := ?_) (a' := ?_) #[true, true, true, true, true, true, true, true, true, true, true, true, true, false, true, true, true, true, true, true, false, false, false, false, false, false, false] rfl rfl (any_of HT_.out (by kernel_rfl)) (fun _ _ _ h => h) (Or.inl ⟨by rfl, ?_⟩) ?_ ?_
                      rotate_left
                      ·intro w'
                       go_simp
                       with_reducible rfl
                      rotate_left
                      ·simp only [Act.put, List.setIfInBounds_toArray, List.set_cons_zero, List.set_cons_succ, i64_w, i32_w]
                       rfl
                      refine pure_ (i := 20) (N := some 138) (v := ?_) (a' := ?_) #[true, true, true, true, true, true, true, true, true, true, true, true, true, false, true, true, true, true, true, true, true, false, false, false, false, false, false] rfl rfl (any_of HT_.out (by kernel_rfl)) (fun _ _ _ h => h) (Or.inl ⟨by rfl, ?_⟩) ?_ ?_
                      rotate_left
                      ·intro w'
                       go_simp
                       with_reducible rfl
                      rotate_left
                      ·simp only [Act.put, List.setIfInBounds_toArray, List.set_cons_zero, List.set_cons_succ, i64_w, i32_w]
                       rfl
                      refine pure_ (i := 21) (N := some 139) (v := ?_) (a' := ?_) #[true, true, true, true, true, true, true, true, true, true, true, true, true, false, true, true, true, true, true, true, true, true, false, false, false, false, false] rfl rfl (any_of HT_.out (by kernel_rfl)) (fun _ _ _ h => h) (Or.inl ⟨by rfl, ?_⟩) ?_ ?_
                      rotate_left
                      ·intro w'
                       go_simp
                       with_reducible rfl
                      rotate_left
                      ·simp only [Act.put, List.setIfInBounds_toArray, List.set_cons_zero, List.set_cons_succ, i64_w, i32_w]
                       rfl
                      refine pure_ (i := 22) (N := some 140) (v := ?_) (a' := ?_) #[true, true, true, true, true, true, true, true, true, true, true, true, true, false, true, true, true, true, true, true, true, true, true, false, false, false, false] rfl rfl (any_of HT_.out (by kernel_rfl)) (fun _ _ _ h => h) (Or.inl ⟨by rfl, ?_⟩) ?_ ?_
                      rotate_left
                      ·intro w'
                       go_simp
                       with_reducible rfl
                      rotate_left
                      ·simp only [Act.put, List.setIfInBounds_toArray, List.set_cons_zero, List.set_cons_succ, i64_w, i32_w]
                       rfl
                      refine one_ (i := 13) (N := some 131) #[true, true, true, true, true, true, true, true, true, true, true, true, true, true, true, true, true, true, true, true, true, true, true, false, false, false, false] rfl rfl (one_of HT_.out (by kernel_rfl)) (by decide) (fun K hK => ?_)
                      refine goes_ Try.func27 (by kernel_rfl) rfl #[.slice A65 ((l0.take (x14_4 : Int).toNat).drop (x10_1 : Int).toNat).length (c0 - x10_1.toNat), .slice A66 ((l1.take ((l1.length : Int) : Int).toNat).drop (x11_1 : Int).toNat).length (c1 - x11_1.toNat), .slice A67 ((l2.take ((l2.length : Int) : Int).toNat).drop (x12_1 : Int).toNat).length (c2 - x12_1.toNat)] (by rfl) rfl rfl (by (try simp only [List.map_toArray, List.map_cons, List.map_nil]); first | done | (rw [show ((l0.take (x14_4 : Int).toNat).drop (x10_1 : Int).toNat).length = (x14_4.toNat - x10_1.toNat) from (by rw [List.length_drop, List.length_take]; have h_ : (x14_4 : Int) ≤ (l0.length : Int) := Zo (by first | (with_reducible assumption) | assumption); omega)] <;> rfl) | (rw [show ((l1.take ((l1.length : Int) : Int).toNat).drop (x11_1 : Int).toNat).length = ((l1.length : Int).toNat - x11_1.toNat) from (by rw [List.length_drop, List.length_take]; have h_ : ((l1.length : Int) : Int) ≤ (l1.length : Int) := Zo (by first | (with_reducible assumption) | assumption); omega)] <;> rfl) | (rw [show ((l2.take ((l2.length : Int) : Int).toNat).drop (x12_1 : Int).toNat).length = ((l2.length : Int).toNat - x12_1.toNat) from (by rw [List.length_drop, List.length_take]; have h_ : ((l2.length : Int) : Int) ≤ (l2.length : Int) := Zo (by first | (with_reducible assumption) | assumption); omega)] <;> rfl) | ((try rw [show ((l0.take (x14_4 : Int).toNat).drop (x10_1 : Int).toNat).length = (x14_4.toNat - x10_1.toNat) from (by rw [List.length_drop, List.length_take]; have h_ : (x14_4 : Int) ≤ (l0.length : Int) := Zo (by first | (with_reducible assumption) | assumption); omega)]); (try rw [show ((l1.take ((l1.length : Int) : Int).toNat).drop (x11_1 : Int).toNat).length = ((l1.length : Int).toNat - x11_1.toNat) from (by rw [List.length_drop, List.length_take]; have h_ : ((l1.length : Int) : Int) ≤ (l1.length : Int) := Zo (by first | (with_reducible assumption) | assumption); omega)]); (try rw [show ((l2.take ((l2.length : Int) : Int).toNat).drop (x12_1 : Int).toNat).length = ((l2.length : Int).toNat - x12_1.toNat) from (by rw [List.length_drop, List.length_take]; have h_ : ((l2.length : Int) : Int) ≤ (l2.length : Int) := Zo (by first | (with_reducible assumption) | assumption); omega)]); rfl) | rfl | (simp only [List.length_drop, List.length_take]; rfl)) ?_
                      with_reducible refine (r07_kind.calls k4 _ _ ((l0.take (x14_4 : Int).toNat).drop (x10_1 : Int).toNat) _ _ ((l1.take ((l1.length : Int) : Int).toNat).drop (x11_1 : Int).toNat) _ _ ((l2.take ((l2.length : Int) : Int).toNat).drop (x12_1 : Int).toNat) t297 _ ?side1 ?side2 ?side3 ?side4 ?side5 ?side6 A62.out).mono ?_
                      (case side1 => repeat (first | exact (Kd.C_below HR294.out HB.out) | (with_reducible refine Kd.C_alloc ?_ _) | (with_reducible refine Kd.C_drewN ?_ _) | (with_reducible refine Kd.C_drew ?_)))
                      (case side2 => exact HC294.out)
                      (case side3 => repeat (first | exact (Kd.C_below HR295.out HB.out) | (with_reducible refine Kd.C_alloc ?_ _) | (with_reducible refine Kd.C_drewN ?_ _) | (with_reducible refine Kd.C_drew ?_)))
                      (case side4 => exact HC295.out)
                      (case side5 => repeat (first | exact (Kd.C_below HR296.out HB.out) | (with_reducible refine Kd.C_alloc ?_ _) | (with_reducible refine Kd.C_drewN ?_ _) | (with_reducible refine Kd.C_drew ?_)))
                      (case side6 => exact HC296.out)
                      rintro e w' ⟨rfl, ⟨nd, rfl⟩⟩
                      refine ⟨_, rfl, ?_⟩
                      refine hK.out _ _ trivial (fun hHeld => ?_)
                      clear hK K
                      refine norm_ (a' := ?_) ?_ ?_
                      rotate_left
                      ·show Act.put _ (some 131) _ = _
                       simp only [Act.put, List.setIfInBounds_toArray, List.set_cons_zero, List.set_cons_succ, i64_w, i32_w]
                       rfl
                      refine pure_ (i := 23) (N := some 141) (v := ?_) (a' := ?_) #[true, true, true, true, true, true, true, true, true, true, true, true, true, true, true, true, true, true, true, true, true, true, true, true, false, false, false] rfl rfl (any_of HT_.out (by kernel_rfl)) (fun _ _ _ h => h) (Or.inl ⟨by rfl, ?_⟩) ?_ ?_
                      rotate_left
                      ·intro w'
                       go_simp
                       with_reducible rfl
                      rotate_left
                      ·simp only [Act.put, List.setIfInBounds_toArray, List.set_cons_zero, List.set_cons_succ, i64_w, i32_w]
                       rfl
                      refine one_ (i := 24) (N := some 142) #[true, true, true, true, true, true, true, true, true, true, true, true, true, true, true, true, true, true, true, true, true, true, true, true, true, false, false] rfl rfl (one_of HT_.out (by kernel_rfl)) (by decide) (fun K hK => ?_)
                      refine value_ (w1 := ?_) (v := ?_) (by rfl) rfl ?_ ?_
                      rotate_left 2
                      ·go_simp
                       constructor
                       ·rfl
                       ·rfl
                      refine hK.out _ _ trivial (fun hHeld => ?_)
                      clear hK K
                      refine norm_ (a' := ?_) ?_ ?_
                      rotate_left
                      ·show Act.put _ (some 142) _ = _
                       simp only [Act.put, List.setIfInBounds_toArray, List.set_cons_zero, List.set_cons_succ, i64_w, i32_w]
                       rfl
                      refine one_ (i := 25) (N := some 143) #[true, true, true, true, true, true, true, true, true, true, true, true, true, true, true, true, true, true, true, true, true, true, true, true, true, true, false] rfl rfl (one_of HT_.out (by kernel_rfl)) (by decide) (fun K hK => ?_)
                      refine Kd.R_append_step k41 (w0 := w) w.heap.size (by rfl) (.tmp 118) (.tmp 142) 25 41 (.agg #[(.int .i64 0), (.int .i64 0), (.int .i64 0), (.int .i64 0), (.int .i64 0), (.int .i64 0), (.int .i64 0)]) 56 rfl Try.underlying25 info41 rfl (by decide) (by omega) u9 x9_1 (⟨t297, (⟨x10_1, x14_4⟩ : S39), (⟨x11_1, (l1.length : Int)⟩ : S39), (⟨x12_1, (l2.length : Int)⟩ : S39)⟩ : S41) [.int .i64 t297, .int .i64 x10_1, .int .i64 x14_4, .int .i64 x11_1, .int .i64 (l1.length : Int), .int .i64 x12_1, .int .i64 (l2.length : Int)] (fun _ => True) (fun _ => False) rfl rfl ?aP (fun _ hk => hk.elim) ?aF ?aO ?aB ?aS ?aL ?_
                      (case aP => exact k41_mkM _ _ _ (⟨t297, (⟨x10_1, x14_4⟩ : S39), (⟨x11_1, (l1.length : Int)⟩ : S39), (⟨x12_1, (l2.length : Int)⟩ : S39)⟩ : S41))
                      (case aB => exact (by repeat (first | (with_reducible first | exact HB.out | apply below_alloc | apply Zd | apply below_drew1) | exact HB.out)))
                      (case aF => exact (fun _ _ => trivial))
                      (case aO => exact (by (with_reducible repeat (first | apply Kd.R_alloc | apply Kd.R_drewN | apply Kd.R_drew)); exact HO_9.out))
                      (case aS => exact (below_size (by repeat (first | (with_reducible first | exact HB.out | apply below_alloc | apply Zd | apply below_drew1) | exact HB.out))))
                      (case aL => have := LMc63.out; omega)
                      intro v299 w68 ho hb hg hat
                      rw [← Ny298.out] at ho
                      have n0_ := Zm (Kd.R_over' (by (with_reducible repeat (first | apply Kd.R_alloc | apply Kd.R_drewN | apply Kd.R_drew)); exact HO_7.out) (Kd.R_typed (by (with_reducible repeat (first | apply Kd.R_alloc | apply Kd.R_drewN | apply Kd.R_drew)); exact HO_9.out)) (by decide) hg)
                      have n1_ := Zm (Kd.R_over' (by (with_reducible repeat (first | apply Kd.R_alloc | apply Kd.R_drewN | apply Kd.R_drew)); exact HO_8.out) (Kd.R_typed (by (with_reducible repeat (first | apply Kd.R_alloc | apply Kd.R_drewN | apply Kd.R_drew)); exact HO_9.out)) (by decide) hg)
                      have n2_ := Zm (hb)
                      have n3_ := Zm (ho)
                      clear HO_7
                      clear HO_8
                      clear HB
                      clear HO_9
                      have HO_7 := n0_
                      have HO_8 := n1_
                      have HB := n2_
                      have HO300 := n3_
                      clear n0_ n1_ n2_ n3_
                      clear ho hb hg hat
                      refine hK.out _ _ trivial (fun hHeld => ?_)
                      clear hK K
                      refine norm_ (a' := ?_) ?_ ?_
                      rotate_left
                      ·show Act.put _ (some 143) _ = _
                       simp only [Act.put, List.setIfInBounds_toArray, List.set_cons_zero, List.set_cons_succ, i64_w, i32_w]
                       rfl
                      refine pure_ (i := 26) (N := some 9) (v := ?_) (a' := ?_) #[true, true, true, true, true, true, true, true, true, true, true, true, true, true, true, true, true, true, true, true, true, true, true, true, true, true, true] rfl rfl (any_of HT_.out (by kernel_rfl)) (fun _ _ _ h => h) (Or.inl ⟨by rfl, ?_⟩) ?_ ?_
                      rotate_left
                      ·intro w'
                       go_simp
                       with_reducible rfl
                      rotate_left
                      ·simp only [Act.put, List.setIfInBounds_toArray, List.set_cons_zero, List.set_cons_succ, i64_w, i32_w]
                       rfl
                      refine done_ (done_of HT_.out (by kernel_rfl)) ?_
                      try go_wp2
                      go_roundg k4
                      case measure => have := HK1.out; have := HJ7.out; have := HJ11.out; have := HK4.out; omega
                      case rel => exact ⟨(y298), (x14_4), ((l1.length : Int)), ((l2.length : Int)), (by first | rfl | (simp; done) | (simp [*]; done)), (by first | rfl | (simp; done) | (simp [*]; done)), (by first | rfl | (simp; done) | (simp [*]; done)), H', ⟨by have := HK1.out; have := HJ7.out; have := HJ11.out; have := HK4.out; omega⟩, ⟨by (with_reducible repeat (first | apply Kd.R_alloc | apply Kd.R_drewN | apply Kd.R_drew)); first | exact HO_7.out | exact Kd.R_mono HO_7.out (fun _ _ => trivial)⟩, ⟨by (with_reducible repeat (first | apply Kd.R_alloc | apply Kd.R_drewN | apply Kd.R_drew)); first | exact HO_8.out | exact Kd.R_mono HO_8.out (fun _ _ => trivial)⟩, ⟨by (with_reducible repeat (first | apply Kd.R_alloc | apply Kd.R_drewN | apply Kd.R_drew)); first | exact HO300.out | exact Kd.R_mono HO300.out (fun _ _ => trivial)⟩, ⟨by repeat (first | (with_reducible first | exact HB.out | apply below_alloc | apply Zd | apply below_drew1) | exact HB.out)⟩⟩
                     ·rw [if_neg c63] at H
                      exact absurd H (by simp)
                    ·rw [if_neg c61] at H
                     exact absurd H (by simp)
                   ·rw [if_neg c60] at H
                    exact absurd H (by simp)
                  ·rw [if_neg c59] at H
                   exact absurd H (by simp)
                 ·rw [if_neg c58] at H
                  exact absurd H (by simp)
                ·rw [if_neg c57] at H
                 exact absurd H (by simp)
               ·rw [if_neg c56] at H
                exact absurd H (by simp)
              ·rw [if_neg c55] at H
               exact absurd H (by simp)
             ·rw [if_neg c54] at H
              exact absurd H (by simp)
            ·rw [if_neg c53] at H
             exact absurd H (by simp)
        ·rw [if_neg c25] at H
         have c25b0 : (x13_11 == 0) = false := beq_eq_false_iff_ne.mpr c25
         have c25b1 : (x13_11 != 0) = true := bne_iff_ne.mpr c25
         by_cases c69 : 0 ≤ x10_1
         ·rw [if_pos c69] at H
          have c69b0 := eq_true c69
          have c69b1 : decide (0 ≤ x10_1) = true := decide_eq_true c69
          clear c69
          by_cases c70 : x10_1 ≤ (wrap64 (x10_1 + x13_11))
          ·rw [if_pos c70] at H
           have c70b0 := eq_true c70
           have c70b1 : decide (x10_1 ≤ (wrap64 (x10_1 + x13_11))) = true := decide_eq_true c70
           by_cases c71 : (wrap64 (x10_1 + x13_11)) ≤ (l0.length : Int)
           ·rw [if_pos c71] at H
            have c71b0 := eq_true c71
            have c71b1 : decide ((wrap64 (x10_1 + x13_11)) ≤ (l0.length : Int)) = true := decide_eq_true c71
            by_cases c72 : 0 ≤ x11_1
            ·rw [if_pos c72] at H
             have c72b0 := eq_true c72
             have c72b1 : decide (0 ≤ x11_1) = true := decide_eq_true c72
             clear c72
             by_cases c73 : x11_1 ≤ (wrap64 (x11_1 + x13_11))
             ·rw [if_pos c73] at H
              have c73b0 := eq_true c73
              have c73b1 : decide (x11_1 ≤ (wrap64 (x11_1 + x13_11))) = true := decide_eq_true c73
              by_cases c74 : (wrap64 (x11_1 + x13_11)) ≤ (l1.length : Int)
              ·rw [if_pos c74] at H
               have c74b0 := eq_true c74
               have c74b1 : decide ((wrap64 (x11_1 + x13_11)) ≤ (l1.length : Int)) = true := decide_eq_true c74
               by_cases c75 : 0 ≤ x12_1
               ·rw [if_pos c75] at H
                have c75b0 := eq_true c75
                have c75b1 : decide (0 ≤ x12_1) = true := decide_eq_true c75
                clear c75
                by_cases c76 : x12_1 ≤ (wrap64 (x12_1 + x13_11))
                ·rw [if_pos c76] at H
                 have c76b0 := eq_true c76
                 have c76b1 : decide (x12_1 ≤ (wrap64 (x12_1 + x13_11))) = true := decide_eq_true c76
                 by_cases c77 : (wrap64 (x12_1 + x13_11)) ≤ (l2.length : Int)
                 ·rw [if_pos c77] at H
                  have c77b0 := eq_true c77
                  have c77b1 : decide ((wrap64 (x12_1 + x13_11)) ≤ (l2.length : Int)) = true := decide_eq_true c77
                  replace H := Option.bind_eq_some_iff.mp H
                  obtain ⟨t304, A780, H⟩ := H
                  replace H : (if x9_1.length < 2513169434916 then (r07_Chunks.l0 kj11 l0 l1 l2 t275 t278 (x9_1 ++ [(⟨t304, (⟨x10_1, wrap64 (x10_1 + x13_11)⟩ : S39), (⟨x11_1, wrap64 (x11_1 + x13_11)⟩ : S39), (⟨x12_1, wrap64 (x12_1 + x13_11)⟩ : S39)⟩ : S41)]) (wrap64 (x10_1 + x13_11)) (wrap64 (x11_1 + x13_11)) (wrap64 (x12_1 + x13_11))) else (none)) = some r := H
                  have A78 := Zm A780
                  clear A780
                  by_cases c79 : x9_1.length < 2513169434916
                  ·rw [if_pos c79] at H
                   have LMc79 := Zm c79
                   clear c79
                   obtain ⟨y305, hy305⟩ : ∃ y_ : List (S41), y_ = (x9_1 ++ [(⟨t304, (⟨x10_1, wrap64 (x10_1 + x13_11)⟩ : S39), (⟨x11_1, wrap64 (x11_1 + x13_11)⟩ : S39), (⟨x12_1, wrap64 (x12_1 + x13_11)⟩ : S39)⟩ : S41)]) := ⟨_, rfl⟩
                   replace H : (r07_Chunks.l0 kj11 l0 l1 l2 t275 t278 y305 (wrap64 (x10_1 + x13_11)) (wrap64 (x11_1 + x13_11)) (wrap64 (x12_1 + x13_11))) = some r := by first | (rw [hy305]; with_reducible exact H) | (have H2_ := (Option.bind_some _ _).symm.trans H; rw [hy305]; with_reducible exact H2_) | (have H2_ := (Option.bind_some _ _).symm.trans H; with_reducible exact H2_) | with_reducible exact H | (rw [hy305]; exact H) | exact H
                   have Ny305 := Zm hy305
                   clear hy305
                   have H' := Zm H
                   clear H
                   try go_wp2
                   have n0_ := Zm (Kd.R_drew HO_7.out)
                   have n1_ := Zm (Kd.R_drew HO_8.out)
                   have n2_ := Zm (Kd.R_drew HO_9.out)
                   have n3_ := Zm (below_drew1 HB.out)
                   clear HO_7
                   clear HO_8
                   clear HO_9
                   clear HB
                   have HO_7 := n0_
                   have HO_8 := n1_
                   have HO_9 := n2_
                   have HB := n3_
                   clear n0_ n1_ n2_ n3_
                   obtain ⟨i081, hi081, _, hsz81, _⟩ := info_parts info3
                   obtain ⟨A81, hcut81, hA81, hC81⟩ := print_mid_of (P := Try.prog) (Value.int .i64) 0 22 3 .i64 .i64 Try.underlying22 hi081 hsz81 A0 c0 l0 x10_1 (wrap64 (x10_1 + x13_11)) (Zo (by first | (with_reducible assumption) | assumption)) (by first | omega | exact Zo (by first | (with_reducible assumption) | assumption)) (Zo (by first | (with_reducible assumption) | assumption)) HC0.out
                   have HR301 := Zm (Kd.C_of_reads (h1 := fun _ => rfl) (hA81 _ (Kd.reads_of_C HR0.out)))
                   have HC301 := Zm hC81
                   clear hA81 hC81 hi081 hsz81
                   obtain ⟨i082, hi082, _, hsz82, _⟩ := info_parts info3
                   obtain ⟨A82, hcut82, hA82, hC82⟩ := print_mid_of (P := Try.prog) (Value.int .i64) 0 22 3 .i64 .i64 Try.underlying22 hi082 hsz82 A1 c1 l1 x11_1 (wrap64 (x11_1 + x13_11)) (Zo (by first | (with_reducible assumption) | assumption)) (by first | omega | exact Zo (by first | (with_reducible assumption) | assumption)) (Zo (by first | (with_reducible assumption) | assumption)) HC1.out
                   have HR302 := Zm (Kd.C_of_reads (h1 := fun _ => rfl) (hA82 _ (Kd.reads_of_C HR1.out)))
                   have HC302 := Zm hC82
                   clear hA82 hC82 hi082 hsz82
                   obtain ⟨i083, hi083, _, hsz83, _⟩ := info_parts info3
                   obtain ⟨A83, hcut83, hA83, hC83⟩ := print_mid_of (P := Try.prog) (Value.int .i64) 0 22 3 .i64 .i64 Try.underlying22 hi083 hsz83 A2 c2 l2 x12_1 (wrap64 (x12_1 + x13_11)) (Zo (by first | (with_reducible assumption) | assumption)) (by first | omega | exact Zo (by first | (with_reducible assumption) | assumption)) (Zo (by first | (with_reducible assumption) | assumption)) HC2.out
                   have HR303 := Zm (Kd.C_of_reads (h1 := fun _ => rfl) (hA83 _ (Kd.reads_of_C HR2.out)))
                   have HC303 := Zm hC83
                   clear hA83 hC83 hi083 hsz83
                   refine start_ (n := 27) (S := fun w' => True) (ds := []) #[false, false, false, false, false, false, false, false, false, false, false, false, false, false, false, false, false, false, false, false, false, false, false, false, false, false, false] (by kernel_rfl) rfl rfl trivial (fun hHeld => ?_); refine with_tabW r07_Chunks.tab22 r07_Chunks.bits22 (fun HT_ HW_ => ?_)
                   generalize wc.drew = w80 at HO_7 HO_8 HO_9 HB HR301 HR302 HR303 hHeld ⊢
                   refine pure_ (i := 0) (N := some 118) (v := ?_) (a' := ?_) #[true, false, false, false, false, false, false, false, false, false, false, false, false, false, false, false, false, false, false, false, false, false, false, false, false, false, false] rfl rfl (any_of HT_.out (by kernel_rfl)) (fun _ _ _ h => h) (Or.inl ⟨by rfl, ?_⟩) ?_ ?_
                   rotate_left
                   ·intro w'
                    go_simp
                    with_reducible rfl
                   rotate_left
                   ·simp only [Act.put, List.setIfInBounds_toArray, List.set_cons_zero, List.set_cons_succ, i64_w, i32_w]
                    rfl
                   refine pure_ (i := 1) (N := some 119) (v := ?_) (a' := ?_) #[true, true, false, false, false, false, false, false, false, false, false, false, false, false, false, false, false, false, false, false, false, false, false, false, false, false, false] rfl rfl (any_of HT_.out (by kernel_rfl)) (fun _ _ _ h => h) (Or.inl ⟨by rfl, ?_⟩) ?_ ?_
                   rotate_left
                   ·intro w'
                    go_simp
                    with_reducible rfl
                   rotate_left
                   ·simp only [Act.put, List.setIfInBounds_toArray, List.set_cons_zero, List.set_cons_succ, i64_w, i32_w]
                    rfl
                   refine pure_ (i := 2) (N := some 120) (v := ?_) (a' := ?_) #[true, true, true, false, false, false, false, false, false, false, false, false, false, false, false, false, false, false, false, false, false, false, false, false, false, false, false] rfl rfl (any_of HT_.out (by kernel_rfl)) (fun _ _ _ h => h) (Or.inl ⟨by rfl, ?_⟩) ?_ ?_
                   rotate_left
                   ·intro w'
                    go_simp
                    with_reducible rfl
                   rotate_left
                   ·simp only [Act.put, List.setIfInBounds_toArray, List.set_cons_zero, List.set_cons_succ, i64_w, i32_w]
                    rfl
                   refine pure_ (i := 3) (N := some 121) (v := ?_) (a' := ?_) #[true, true, true, true, false, false, false, false, false, false, false, false, false, false, false, false, false, false, false, false, false, false, false, false, false, false, false] rfl rfl (any_of HT_.out (by kernel_rfl)) (fun _ _ _ h => h) (Or.inl ⟨by rfl, ?_⟩) ?_ ?_
                   rotate_left
                   ·intro w'
                    go_simp
                    with_reducible rfl
                   rotate_left
                   ·simp only [Act.put, List.setIfInBounds_toArray, List.set_cons_zero, List.set_cons_succ, i64_w, i32_w]
                    rfl
                   refine pure_ (i := 4) (N := some 122) (v := ?_) (a' := ?_) #[true, true, true, true, true, false, false, false, false, false, false, false, false, false, false, false, false, false, false, false, false, false, false, false, false, false, false] rfl rfl (any_of HT_.out (by kernel_rfl)) (fun _ _ _ h => h) (Or.inl ⟨by rfl, ?_⟩) ?_ ?_
                   rotate_left
                   ·intro w'
                    go_simp
                    with_reducible rfl
                   rotate_left
                   ·simp only [Act.put, List.setIfInBounds_toArray, List.set_cons_zero, List.set_cons_succ, i64_w, i32_w]
                    rfl
                   refine pure_ (i := 5) (N := some 123) (v := ?_) (a' := ?_) #[true, true, true, true, true, true, false, false, false, false, false, false, false, false, false, false, false, false, false, false, false, false, false, false, false, false, false] rfl rfl (any_of HT_.out (by kernel_rfl)) (fun _ _ _ h => h) (Or.inl ⟨by rfl, ?_⟩) ?_ ?_
                   rotate_left
                   ·intro w'
                    go_simp
                    with_reducible rfl
                   rotate_left
                   ·simp only [Act.put, List.setIfInBounds_toArray, List.set_cons_zero, List.set_cons_succ, i64_w, i32_w]
                    rfl
                   refine pure_ (i := 6) (N := some 124) (v := ?_) (a' := ?_) #[true, true, true, true, true, true, true, false, false, false, false, false, false, false, false, false, false, false, false, false, false, false, false, false, false, false, false] rfl rfl (any_of HT_.out (by kernel_rfl)) (fun _ _ _ h => h) (Or.inl ⟨by rfl, ?_⟩) ?_ ?_
                   rotate_left
                   ·intro w'
                    go_simp
                    with_reducible rfl
                   rotate_left
                   ·simp only [Act.put, List.setIfInBounds_toArray, List.set_cons_zero, List.set_cons_succ, i64_w, i32_w]
                    rfl
                   refine pure_ (i := 7) (N := some 125) (v := ?_) (a' := ?_) #[true, true, true, true, true, true, true, true, false, false, false, false, false, false, false, false, false, false, false, false, false, false, false, false, false, false, false] rfl rfl (any_of HT_.out (by kernel_rfl)) (fun _ _ _ h => h) (Or.inl ⟨by rfl, ?_⟩) ?_ ?_
                   rotate_left
                   ·intro w'
                    go_simp
                    with_reducible rfl
                   rotate_left
                   ·simp only [Act.put, List.setIfInBounds_toArray, List.set_cons_zero, List.set_cons_succ, i64_w, i32_w]
                    rfl
                   refine pure_ (i := 8) (N := some 126) (v := ?_) (a' := ?_) #[true, true, true, true, true, true, true, true, true, false, false, false, false, false, false, false, false, false, false, false, false, false, false, false, false, false, false] rfl rfl (any_of HT_.out (by kernel_rfl)) (fun _ _ _ h => h) (Or.inl ⟨by rfl, ?_⟩) ?_ ?_
                   rotate_left
                   ·intro w'
                    go_simp
                    with_reducible rfl
                   rotate_left
                   ·simp only [Act.put, List.setIfInBounds_toArray, List.set_cons_zero, List.set_cons_succ, i64_w, i32_w]
                    rfl
                   refine pure_ (i := 9) (N := some 127) (v := ?_) (a' := ?_) #[true, true, true, true, true, true, true, true, true, true, false, false, false, false, false, false, false, false, false, false, false, false, false, false, false, false, false] rfl rfl (any_of HT_.out (by kernel_rfl)) (fun _ _ _ h => h) (Or.inl ⟨by rfl, ?_⟩) ?_ ?_
                   rotate_left
                   ·intro w'
                    go_simp
                    with_reducible rfl
                   rotate_left
                   ·simp only [Act.put, List.setIfInBounds_toArray, List.set_cons_zero, List.set_cons_succ, i64_w, i32_w]
                    rfl
                   refine pure_ (i := 10) (N := some 128) (v := ?_) (a' := ?_) #[true, true, true, true, true, true, true, true, true, true, true, false, false, false, false, false, false, false, false, false, false, false, false, false, false, false, false] rfl rfl (any_of HT_.out (by kernel_rfl)) (fun _ _ _ h => h) (Or.inl ⟨by rfl, ?_⟩) ?_ ?_
                   rotate_left
                   ·intro w'
                    go_simp
                    with_reducible rfl
                   rotate_left
                   ·simp only [Act.put, List.setIfInBounds_toArray, List.set_cons_zero, List.set_cons_succ, i64_w, i32_w]
                    rfl
                   refine pure_ (i := 11) (N := some 129) (v := ?_) (a' := ?_) #[true, true, true, true, true, true, true, true, true, true, true, true, false, false, false, false, false, false, false, false, false, false, false, false, false, false, false] rfl rfl (any_of HT_.out (by kernel_rfl)) (fun _ _ _ h => h) (Or.inl ⟨by rfl, ?_⟩) ?_ ?_
                   rotate_left
                   ·intro w'
                    go_simp
                    with_reducible rfl
                   rotate_left
                   ·simp only [Act.put, List.setIfInBounds_toArray, List.set_cons_zero, List.set_cons_succ, i64_w, i32_w]
                    rfl
                   refine pure_ (i := 12) (N := some 130) (v := ?_) (a' := ?_) #[true, true, true, true, true, true, true, true, true, true, true, true, true, false, false, false, false, false, false, false, false, false, false, false, false, false, false] rfl rfl (any_of HT_.out (by kernel_rfl)) (fun _ _ _ h => h) (Or.inl ⟨by rfl, ?_⟩) ?_ ?_
                   rotate_left
                   ·intro w'
                    go_simp
                    with_reducible rfl
                   rotate_left
                   ·simp only [Act.put, List.setIfInBounds_toArray, List.set_cons_zero, List.set_cons_succ, i64_w, i32_w]
                    rfl
                   refine pure_ (i := 14) (N := some 132) (v := ?_) (a' := ?_) #[true, true, true, true, true, true, true, true, true, true, true, true, true, false, true, false, false, false, false, false, false, false, false, false, false, false, false] rfl rfl (any_of HT_.out (by kernel_rfl)) (fun _ _ _ h => h) (Or.inl ⟨by rfl, ?_⟩) ?_ ?_
                   rotate_left
                   ·intro w'
                    go_simp
                    with_reducible rfl
                   rotate_left
                   ·simp only [Act.put, List.setIfInBounds_toArray, List.set_cons_zero, List.set_cons_succ, i64_w, i32_w]
                    rfl
                   refine pure_ (i := 15) (N := some 133) (v := ?_) (a' := ?_) #[true, true, true, true, true, true, true, true, true, true, true, true, true, false, true, true, false, false, false, false, false, false, false, false, false, false, false] rfl rfl (any_of HT_.out (by kernel_rfl)) (fun _ _ _ h => h) (Or.inl ⟨by rfl, ?_⟩) ?_ ?_
                   rotate_left
                   ·intro w'
                    go_simp
                    with_reducible rfl
                   rotate_left
                   ·simp only [Act.put, List.setIfInBounds_toArray, List.set_cons_zero, List.set_cons_succ, i64_w, i32_w]
                    rfl
                   refine pure_ (i := 16) (N := some 134) (v := ?_) (a' := ?_) #[true, true, true, true, true, true, true, true, true, true, true, true, true, false, true, true, true, false, false, false, false, false, false, false, false, false, false] rfl rfl (any_of HT_.out (by kernel_rfl)) (fun _ _ _ h => h) (Or.inl ⟨by rfl, ?_⟩) ?_ ?_
                   rotate_left
                   ·intro w'
                    go_simp
                    with_reducible rfl
                   rotate_left
                   ·simp only [Act.put, List.setIfInBounds_toArray, List.set_cons_zero, List.set_cons_succ, i64_w, i32_w]
                    rfl
                   refine pure_ (i := 17) (N := some 135) (v := ?_) (a' := ?_) #[true, true, true, true, true, true, true, true, true, true, true, true, true, false, true, true, true, true, false, false, false, false, false, false, false, false, false] rfl rfl (any_of HT_.out (by kernel_rfl)) (fun _ _ _ h => h) (Or.inl ⟨by rfl, ?_⟩) ?_ ?_
                   rotate_left
                   ·intro w'
                    go_simp
                    with_reducible rfl
                   rotate_left
                   ·simp only [Act.put, List.setIfInBounds_toArray, List.set_cons_zero, List.set_cons_succ, i64_w, i32_w]
                    rfl
                   refine pure_ (i := 18) (N := some 136) (v := ?_) (a' := ?_) #[true, true, true, true, true, true, true, true, true, true, true, true, true, false, true, true, true, true, true, false, false, false, false, false, false, false, false] rfl rfl (any_of HT_.out (by kernel_rfl)) (fun _ _ _ h => h) (Or.inl ⟨by rfl, ?_⟩) ?_ ?_
                   rotate_left
                   ·intro w'
                    go_simp
                    with_reducible rfl
                   rotate_left
                   ·simp only [Act.put, List.setIfInBounds_toArray, List.set_cons_zero, List.set_cons_succ, i64_w, i32_w]
                    rfl
                   refine pure_ (i := 19) (N := some 137) (v := ?_) (a' := ?_) #[true, true, true, true, true, true, true, true, true, true, true, true, true, false, true, true, true, true, true, true, false, false, false, false, false, false, false] rfl rfl (any_of HT_.out (by kernel_rfl)) (fun _ _ _ h => h) (Or.inl ⟨by rfl, ?_⟩) ?_ ?_
                   rotate_left
                   ·intro w'
                    go_simp
                    with_reducible rfl
                   rotate_left
                   ·simp only [Act.put, List.setIfInBounds_toArray, List.set_cons_zero, List.set_cons_succ, i64_w, i32_w]
                    rfl
                   refine pure_ (i := 20) (N := some 138) (v := ?_) (a' := ?_) #[true, true, true, true, true, true, true, true, true, true, true, true, true, false, true, true, true, true, true, true, true, false, false, false, false, false, false] rfl rfl (any_of HT_.out (by kernel_rfl)) (fun _ _ _ h => h) (Or.inl ⟨by rfl, ?_⟩) ?_ ?_
                   rotate_left
                   ·intro w'
                    go_simp
                    with_reducible rfl
                   rotate_left
                   ·simp only [Act.put, List.setIfInBounds_toArray, List.set_cons_zero, List.set_cons_succ, i64_w, i32_w]
                    rfl
                   refine pure_ (i := 21) (N := some 139) (v := ?_) (a' := ?_) #[true, true, true, true, true, true, true, true, true, true, true, true, true, false, true, true, true, true, true, true, true, true, false, false, false, false, false] rfl rfl (any_of HT_.out (by kernel_rfl)) (fun _ _ _ h => h) (Or.inl ⟨by rfl, ?_⟩) ?_ ?_
                   rotate_left
                   ·intro w'
                    go_simp
                    with_reducible rfl
                   rotate_left
                   ·simp only [Act.put, List.setIfInBounds_toArray, List.set_cons_zero, List.set_cons_succ, i64_w, i32_w]
                    rfl
                   refine pure_ (i := 22) (N := some 140) (v := ?_) (a' := ?_) #[true, true, true, true, true, true, true, true, true, true, true, true, true, false, true, true, true, true, true, true, true, true, true, false, false, false, false] rfl rfl (any_of HT_.out (by kernel_rfl)) (fun _ _ _ h => h) (Or.inl ⟨by rfl, ?_⟩) ?_ ?_
                   rotate_left
                   ·intro w'
                    go_simp
                    with_reducible rfl
                   rotate_left
                   ·simp only [Act.put, List.setIfInBounds_toArray, List.set_cons_zero, List.set_cons_succ, i64_w, i32_w]
                    rfl
                   refine one_ (i := 13) (N := some 131) #[true, true, true, true, true, true, true, true, true, true, true, true, true, true, true, true, true, true, true, true, true, true, true, false, false, false, false] rfl rfl (one_of HT_.out (by kernel_rfl)) (by decide) (fun K hK => ?_)
                   refine goes_ Try.func27 (by kernel_rfl) rfl #[.slice A81 ((l0.take ((wrap64 (x10_1 + x13_11)) : Int).toNat).drop (x10_1 : Int).toNat).length (c0 - x10_1.toNat), .slice A82 ((l1.take ((wrap64 (x11_1 + x13_11)) : Int).toNat).drop (x11_1 : Int).toNat).length (c1 - x11_1.toNat), .slice A83 ((l2.take ((wrap64 (x12_1 + x13_11)) : Int).toNat).drop (x12_1 : Int).toNat).length (c2 - x12_1.toNat)] (by rfl) rfl rfl (by (try simp only [List.map_toArray, List.map_cons, List.map_nil]); first | done | (rw [show ((l0.take ((wrap64 (x10_1 + x13_11)) : Int).toNat).drop (x10_1 : Int).toNat).length = ((wrap64 (x10_1 + x13_11)).toNat - x10_1.toNat) from (by rw [List.length_drop, List.length_take]; have h_ : ((wrap64 (x10_1 + x13_11)) : Int) ≤ (l0.length : Int) := Zo (by first | (with_reducible assumption) | assumption); omega)] <;> rfl) | (rw [show ((l1.take ((wrap64 (x11_1 + x13_11)) : Int).toNat).drop (x11_1 : Int).toNat).length = ((wrap64 (x11_1 + x13_11)).toNat - x11_1.toNat) from (by rw [List.length_drop, List.length_take]; have h_ : ((wrap64 (x11_1 + x13_11)) : Int) ≤ (l1.length : Int) := Zo (by first | (with_reducible assumption) | assumption); omega)] <;> rfl) | (rw [show ((l2.take ((wrap64 (x12_1 + x13_11)) : Int).toNat).drop (x12_1 : Int).toNat).length = ((wrap64 (x12_1 + x13_11)).toNat - x12_1.toNat) from (by rw [List.length_drop, List.length_take]; have h_ : ((wrap64 (x12_1 + x13_11)) : Int) ≤ (l2.length : Int) := Zo (by first | (with_reducible assumption) | assumption); omega)] <;> rfl) | ((try rw [show ((l0.take ((wrap64 (x10_1 + x13_11)) : Int).toNat).drop (x10_1 : Int).toNat).length = ((wrap64 (x10_1 + x13_11)).toNat - x10_1.toNat) from (by rw [List.length_drop, List.length_take]; have h_ : ((wrap64 (x10_1 + x13_11)) : Int) ≤ (l0.length : Int) := Zo (by first | (with_reducible assumption) | assumption); omega)]); (try rw [show ((l1.take ((wrap64 (x11_1 + x13_11)) : Int).toNat).drop (x11_1 : Int).toNat).length = ((wrap64 (x11_1 + x13_11)).toNat - x11_1.toNat) from (by rw [List.length_drop, List.length_take]; have h_ : ((wrap64 (x11_1 + x13_11)) : Int) ≤ (l1.length : Int) := Zo (by first | (with_reducible assumption) | assumption); omega)]); (try rw [show ((l2.take ((wrap64 (x12_1 + x13_11)) : Int).toNat).drop (x12_1 : Int).toNat).length = ((wrap64 (x12_1 + x13_11)).toNat - x12_1.toNat) from (by rw [List.length_drop, List.length_take]; have h_ : ((wrap64 (x12_1 + x13_11)) : Int) ≤ (l2.length : Int) := Zo (by first | (with_reducible assumption) | assumption); omega)]); rfl) | rfl | (simp only [List.length_drop, List.length_take]; rfl)) ?_
                   with_reducible refine (r07_kind.calls kj11 _ _ ((l0.take ((wrap64 (x10_1 + x13_11)) : Int).toNat).drop (x10_1 : Int).toNat) _ _ ((l1.take ((wrap64 (x11_1 + x13_11)) : Int).toNat).drop (x11_1 : Int).toNat) _ _ ((l2.take ((wrap64 (x12_1 + x13_11)) : Int).toNat).drop (x12_1 : Int).toNat) t304 _ ?side1 ?side2 ?side3 ?side4 ?side5 ?side6 A78.out).mono ?_
                   (case side1 => repeat (first | exact (Kd.C_below HR301.out HB.out) | (with_reducible refine Kd.C_alloc ?_ _) | (with_reducible refine Kd.C_drewN ?_ _) | (with_reducible refine Kd.C_drew ?_)))
                   (case side2 => exact HC301.out)
                   (case side3 => repeat (first | exact (Kd.C_below HR302.out HB.out) | (with_reducible refine Kd.C_alloc ?_ _) | (with_reducible refine Kd.C_drewN ?_ _) | (with_reducible refine Kd.C_drew ?_)))
                   (case side4 => exact HC302.out)
                   (case side5 => repeat (first | exact (Kd.C_below HR303.out HB.out) | (with_reducible refine Kd.C_alloc ?_ _) | (with_reducible refine Kd.C_drewN ?_ _) | (with_reducible refine Kd.C_drew ?_)))
                   (case side6 => exact HC303.out)
                   rintro e w' ⟨rfl, ⟨nd, rfl⟩⟩
                   refine ⟨_, rfl, ?_⟩
                   refine hK.out _ _ trivial (fun hHeld => ?_)
                   clear hK K
                   refine norm_ (a' := ?_) ?_ ?_
                   rotate_left
                   ·show Act.put _ (some 131) _ = _
                    simp only [Act.put, List.setIfInBounds_toArray, List.set_cons_zero, List.set_cons_succ, i64_w, i32_w]
                    rfl
                   refine pure_ (i := 23) (N := some 141) (v := ?_) (a' := ?_) #[true, true, true, true, true, true, true, true, true, true, true, true, true, true, true, true, true, true, true, true, true, true, true, true, false, false, false] rfl rfl (any_of HT_.out (by kernel_rfl)) (fun _ _ _ h => h) (Or.inl ⟨by rfl, ?_⟩) ?_ ?_
                   rotate_left
                   ·intro w'
                    go_simp
                    with_reducible rfl
                   rotate_left
                   ·simp only [Act.put, List.setIfInBounds_toArray, List.set_cons_zero, List.set_cons_succ, i64_w, i32_w]
                    rfl
                   refine one_ (i := 24) (N := some 142) #[true, true, true, true, true, true, true, true, true, true, true, true, true, true, true, true, true, true, true, true, true, true, true, true, true, false, false] rfl rfl (one_of HT_.out (by kernel_rfl)) (by decide) (fun K hK => ?_)
                   refine value_ (w1 := ?_) (v := ?_) (by rfl) rfl ?_ ?_
                   rotate_left 2
                   ·go_simp
                    constructor
                    ·rfl
                    ·rfl
                   refine hK.out _ _ trivial (fun hHeld => ?_)
                   clear hK K
                   refine norm_ (a' := ?_) ?_ ?_
                   rotate_left
                   ·show Act.put _ (some 142) _ = _
                    simp only [Act.put, List.setIfInBounds_toArray, List.set_cons_zero, List.set_cons_succ, i64_w, i32_w]
                    rfl
                   refine one_ (i := 25) (N := some 143) #[true, true, true, true, true, true, true, true, true, true, true, true, true, true, true, true, true, true, true, true, true, true, true, true, true, true, false] rfl rfl (one_of HT_.out (by kernel_rfl)) (by decide) (fun K hK => ?_)
                   refine Kd.R_append_step k41 (w0 := w) w.heap.size (by rfl) (.tmp 118) (.tmp 142) 25 41 (.agg #[(.int .i64 0), (.int .i64 0), (.int .i64 0), (.int .i64 0), (.int .i64 0), (.int .i64 0), (.int .i64 0)]) 56 rfl Try.underlying25 info41 rfl (by decide) (by omega) u9 x9_1 (⟨t304, (⟨x10_1, wrap64 (x10_1 + x13_11)⟩ : S39), (⟨x11_1, wrap64 (x11_1 + x13_11)⟩ : S39), (⟨x12_1, wrap64 (x12_1 + x13_11)⟩ : S39)⟩ : S41) [.int .i64 t304, .int .i64 x10_1, .int .i64 (wrap64 (x10_1 + x13_11)), .int .i64 x11_1, .int .i64 (wrap64 (x11_1 + x13_11)), .int .i64 x12_1, .int .i64 (wrap64 (x12_1 + x13_11))] (fun _ => True) (fun _ => False) rfl rfl ?aP (fun _ hk => hk.elim) ?aF ?aO ?aB ?aS ?aL ?_
                   (case aP => exact k41_mkM _ _ _ (⟨t304, (⟨x10_1, wrap64 (x10_1 + x13_11)⟩ : S39), (⟨x11_1, wrap64 (x11_1 + x13_11)⟩ : S39), (⟨x12_1, wrap64 (x12_1 + x13_11)⟩ : S39)⟩ : S41))
                   (case aB => exact (by repeat (first | (with_reducible first | exact HB.out | apply below_alloc | apply Zd | apply below_drew1) | exact HB.out)))
                   (case aF => exact (fun _ _ => trivial))
                   (case aO => exact (by (with_reducible repeat (first | apply Kd.R_alloc | apply Kd.R_drewN | apply Kd.R_drew)); exact HO_9.out))
                   (case aS => exact (below_size (by repeat (first | (with_reducible first | exact HB.out | apply below_alloc | apply Zd | apply below_drew1) | exact HB.out))))
                   (case aL => have := LMc79.out; omega)
                   intro v306 w84 ho hb hg hat
                   rw [← Ny305.out] at ho
                   have n0_ := Zm (Kd.R_over' (by (with_reducible repeat (first | apply Kd.R_alloc | apply Kd.R_drewN | apply Kd.R_drew)); exact HO_7.out) (Kd.R_typed (by (with_reducible repeat (first | apply Kd.R_alloc | apply Kd.R_drewN | apply Kd.R_drew)); exact HO_9.out)) (by decide) hg)
                   have n1_ := Zm (Kd.R_over' (by (with_reducible repeat (first | apply Kd.R_alloc | apply Kd.R_drewN | apply Kd.R_drew)); exact HO_8.out) (Kd.R_typed (by (with_reducible repeat (first | apply Kd.R_alloc | apply Kd.R_drewN | apply Kd.R_drew)); exact HO_9.out)) (by decide) hg)
                   have n2_ := Zm (hb)
                   have n3_ := Zm (ho)
                   clear HO_7
                   clear HO_8
                   clear HB
                   clear HO_9
                   have HO_7 := n0_
                   have HO_8 := n1_
                   have HB := n2_
                   have HO307 := n3_
                   clear n0_ n1_ n2_ n3_
                   clear ho hb hg hat
                   refine hK.out _ _ trivial (fun hHeld => ?_)
                   clear hK K
                   refine norm_ (a' := ?_) ?_ ?_
                   rotate_left
                   ·show Act.put _ (some 143) _ = _
                    simp only [Act.put, List.setIfInBounds_toArray, List.set_cons_zero, List.set_cons_succ, i64_w, i32_w]
                    rfl
                   refine pure_ (i := 26) (N := some 9) (v := ?_) (a' := ?_) #[true, true, true, true, true, true, true, true, true, true, true, true, true, true, true, true, true, true, true, true, true, true, true, true, true, true, true] rfl rfl (any_of HT_.out (by kernel_rfl)) (fun _ _ _ h => h) (Or.inl ⟨by rfl, ?_⟩) ?_ ?_
                   rotate_left
                   ·intro w'
                    go_simp
                    with_reducible rfl
                   rotate_left
                   ·simp only [Act.put, List.setIfInBounds_toArray, List.set_cons_zero, List.set_cons_succ, i64_w, i32_w]
                    rfl
                   refine done_ (done_of HT_.out (by kernel_rfl)) ?_
                   try go_wp2
                   go_roundg kj11
                   case measure => have := HK1.out; have := HJ7.out; have := HJ11.out; omega
                   case rel => exact ⟨(y305), (wrap64 (x10_1 + x13_11)), (wrap64 (x11_1 + x13_11)), (wrap64 (x12_1 + x13_11)), (by first | rfl | (simp; done) | (simp [*]; done)), (by first | rfl | (simp; done) | (simp [*]; done)), (by first | rfl | (simp; done) | (simp [*]; done)), H', ⟨by have := HK1.out; have := HJ7.out; have := HJ11.out; omega⟩, ⟨by (with_reducible repeat (first | apply Kd.R_alloc | apply Kd.R_drewN | apply Kd.R_drew)); first | exact HO_7.out | exact Kd.R_mono HO_7.out (fun _ _ => trivial)⟩, ⟨by (with_reducible repeat (first | apply Kd.R_alloc | apply Kd.R_drewN | apply Kd.R_drew)); first | exact HO_8.out | exact Kd.R_mono HO_8.out (fun _ _ => trivial)⟩, ⟨by (with_reducible repeat (first | apply Kd.R_alloc | apply Kd.R_drewN | apply Kd.R_drew)); first | exact HO307.out | exact Kd.R_mono HO307.out (fun _ _ => trivial)⟩, ⟨by repeat (first | (with_reducible first | exact HB.out | apply below_alloc | apply Zd | apply below_drew1) | exact HB.out)⟩⟩
                  ·rw [if_neg c79] at H
                   exact absurd H (by simp)
                 ·rw [if_neg c77] at H
                  exact absurd H (by simp)
                ·rw [if_neg c76] at H
                 exact absurd H (by simp)
               ·rw [if_neg c75] at H
                exact absurd H (by simp)
              ·rw [if_neg c74] at H
               exact absurd H (by simp)
             ·rw [if_neg c73] at H
              exact absurd H (by simp)
            ·rw [if_neg c72] at H
             exact absurd H (by simp)
           ·rw [if_neg c71] at H
            exact absurd H (by simp)
          ·rw [if_neg c70] at H
           exact absurd H (by simp)
         ·rw [if_neg c69] at H
          exact absurd H (by simp)
     ·replace c11 := Bool.eq_false_iff.mpr c11
      subst c11
      have H1 : (some x9_1) = some r := by rw [if_neg (show ¬ (false = true) by decide)] at H; exact H
      clear H
      have H := H1
      clear H1
      obtain rfl := Option.some.inj H
      go_wp2
      go_ret
      exact ⟨_, by first | rfl | (simp [errW_none, errW_some] <;> rfl) | (simp [*, errW_none, errW_some] <;> rfl), by (with_reducible repeat (first | apply Kd.R_alloc | apply Kd.R_drewN | apply Kd.R_drew)); exact HO_9.out, by repeat (first | (with_reducible first | exact HB.out | apply below_alloc | apply Zd | apply below_drew1) | exact HB.out)⟩
end Go.Proofs.Yteafndooaokagaa.PDiff
