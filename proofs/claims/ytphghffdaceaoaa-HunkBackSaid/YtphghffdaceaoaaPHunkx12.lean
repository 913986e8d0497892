/- Laid by a program of this session out of the seat's translation. -/
import Derived.Test.YtphghffdaceaoaaPHunkx0
import Derived.Test.YtphghffdaceaoaaPHunkx11
namespace Go.Proofs.Ytphghffdaceaoaa.PHunk
open Go.RowKit Go.Proofs.YtphghffdaceaoaaW.PrintWords Go.Proofs.YtphghffdaceaoaaW.PrintLast Go.Proofs.YtphghffdaceaoaaW.PrintMore
attribute [local go_sem] max2_int min2_int max_two min_two max_three min_three max_four min_four   -- for this text's walks alone
set_option linter.unusedVariables false
set_option linter.unusedSimpArgs false
/-! ### r05_Match: function 31 -/
mutual
def r05_Match.l0 : Nat → List Int → List Int → List Int → Int → Option (List Int)
 | 0, _, _, _, _ => none
 | k + 1, x0, x1, x5, x6 => if x6 < (x0.length : Int) then (if x5.length < 17592186044416 then (r05_Match.l0 k x0 x1 (x5 ++ [(-1)]) (wrap64 (x6 + 1))) else (none)) else (if (x0.length : Int) > 2000 then (r05_Match.j1 k x0 x1 x5 true) else (r05_Match.j1 k x0 x1 x5 (decide ((x1.length : Int) > 2000))))
def r05_Match.j1 : Nat → List Int → List Int → List Int → Bool → Option (List Int)
 | 0, _, _, _, _ => none
 | k + 1, x0, x1, x5, x28 => if x28 = true then (r05_Match.l1 k x0 x1 x5 0) else ((r05_table.f k x0 x1).bind fun t293 => (r05_Match.l3 k x0 x1 x5 t293 0 0))
def r05_Match.j3 : Nat → List Int → List Int → List Int → Int → Option (List Int)
 | 0, _, _, _, _ => none
 | k + 1, x0, x1, x5, x7 => r05_Match.l2 k x0 x1 x5 x7 0
def r05_Match.l2 : Nat → List Int → List Int → List Int → Int → Int → Option (List Int)
 | 0, _, _, _, _, _ => none
 | k + 1, x0, x1, x5, x7, x8 => if x8 < (wrap64 ((x0.length : Int) - x7)) then (if x8 < (wrap64 ((x1.length : Int) - x7)) then (if 0 ≤ (wrap64 ((wrap64 ((x0.length : Int) - 1)) - x8)) then (if (wrap64 ((wrap64 ((x0.length : Int) - 1)) - x8)) < (x0.length : Int) then (if 0 ≤ (wrap64 ((wrap64 ((x1.length : Int) - 1)) - x8)) then (if (wrap64 ((wrap64 ((x1.length : Int) - 1)) - x8)) < (x1.length : Int) then (if (rd x0 (wrap64 ((wrap64 ((x0.length : Int) - 1)) - x8))) = (rd x1 (wrap64 ((wrap64 ((x1.length : Int) - 1)) - x8))) then (if (wrap64 ((wrap64 ((x0.length : Int) - 1)) - x8)) < (x5.length : Int) then (r05_Match.l2 k x0 x1 (x5.set ((wrap64 ((wrap64 ((x0.length : Int) - 1)) - x8)) : Int).toNat (wrap64 ((wrap64 ((x1.length : Int) - 1)) - x8))) x7 (wrap64 (x8 + 1))) else (none)) else (some x5)) else (none)) else (none)) else (none)) else (none)) else (some x5)) else (some x5)
def r05_Match.l1 : Nat → List Int → List Int → List Int → Int → Option (List Int)
 | 0, _, _, _, _ => none
 | k + 1, x0, x1, x5, x7 => if x7 < (x0.length : Int) then (if x7 < (x1.length : Int) then (if 0 ≤ x7 then (if (rd x0 x7) = (rd x1 x7) then (if x7 < (x5.length : Int) then (r05_Match.l1 k x0 x1 (x5.set (x7 : Int).toNat x7) (wrap64 (x7 + 1))) else (none)) else (r05_Match.j3 k x0 x1 x5 x7)) else (none)) else (r05_Match.j3 k x0 x1 x5 x7)) else (r05_Match.j3 k x0 x1 x5 x7)
def r05_Match.l3 : Nat → List Int → List Int → List Int → List (List Int) → Int → Int → Option (List Int)
 | 0, _, _, _, _, _, _ => none
 | k + 1, x0, x1, x5, x9, x10, x11 => if x10 < (x0.length : Int) then (r05_Match.j6 k x0 x1 x5 x9 x10 x11 (decide (x11 < (x1.length : Int)))) else (r05_Match.j6 k x0 x1 x5 x9 x10 x11 false)
def r05_Match.j6 : Nat → List Int → List Int → List Int → List (List Int) → Int → Int → Bool → Option (List Int)
 | 0, _, _, _, _, _, _, _ => none
 | k + 1, x0, x1, x5, x9, x10, x11, x116 => if x116 = true then (if 0 ≤ x10 then (if x10 < (x0.length : Int) then (if 0 ≤ x11 then (if x11 < (x1.length : Int) then (if (rd x0 x10) = (rd x1 x11) then (if x10 < (x5.length : Int) then (r05_Match.l3 k x0 x1 (x5.set (x10 : Int).toNat x11) x9 (wrap64 (x10 + 1)) (wrap64 (x11 + 1))) else (none)) else (if 0 ≤ (wrap64 (x10 + 1)) then (if (wrap64 (x10 + 1)) < (x9.length : Int) then (if x11 < ((rd_L2 x9 (wrap64 (x10 + 1))).length : Int) then (if x10 < (x9.length : Int) then (if 0 ≤ (wrap64 (x11 + 1)) then (if (wrap64 (x11 + 1)) < ((rd_L2 x9 x10).length : Int) then (if (rd (rd_L2 x9 (wrap64 (x10 + 1))) x11) ≥ (rd (rd_L2 x9 x10) (wrap64 (x11 + 1))) then (r05_Match.l3 k x0 x1 x5 x9 (wrap64 (x10 + 1)) x11) else (r05_Match.l3 k x0 x1 x5 x9 x10 (wrap64 (x11 + 1)))) else (none)) else (none)) else (none)) else (none)) else (none)) else (none))) else (none)) else (none)) else (none)) else (none)) else (some x5)
end
def r05_Match.f (k : Nat) (l0 : List Int) (l1 : List Int) : Option (List Int) := r05_Match.l0 k l0 l1 ([] : List Int) 0
set_option maxHeartbeats 8000000 in
set_option maxRecDepth 100000 in
theorem r05_Match.calls (k : Nat) (A0 : Option Addr) (c0 : Nat) (l0 : List Int) (A1 : Option Addr) (c1 : Nat) (l1 : List Int) (r : List Int) (w : World) (hr0 : Kd.C (Kd.int .i64) w A0 l0.length l0) (hc0 : l0.length ≤ c0) (hr1 : Kd.C (Kd.int .i64) w A1 l1.length l1) (hc1 : l1.length ≤ c1) (h : r05_Match.f k l0 l1 = some r) :
  Calls Try.prog 31 #[.slice A0 l0.length c0, .slice A1 l1.length c1] w fun e w' => ∃ v0_ : Value, e = .returned (v0_) ∧ Kd.R (Kd.int .i64) 3 w' w.heap.size (fun _ => True) v0_ r ∧ Below w.heap.size w w' := by
 have HR0 := Zm hr0
 have HC0 := Zm hc0
 clear hr0 hc0
 have HR1 := Zm hr1
 have HC1 := Zm hc1
 clear hr1 hc1
 have HB := Zm (Below.refl w.heap.size w)
 have H : (r05_Match.l0 k l0 l1 ([] : List Int) 0) = some r := h
 clear h
 have H' := Zm H
 clear H
 go_enter Try.func31, Try.ntmps31
 go_wp2
 repeat (go_quiet (fail); try go_wp2)
 go_loopg [5, 6] k (fun kq v5 v6 w' => ∃ (x5_1 : List Int) (x6_1 : Int), v6 = .int .i64 x6_1 ∧ Aside0 (r05_Match.l0 kq l0 l1 x5_1 x6_1 = some r) ∧ Aside0 (kq ≤ k) ∧ Aside0 (Kd.R (Kd.int .i64) 3 w' w.heap.size (fun _ => True) v5 x5_1) ∧ Aside0 (Below w.heap.size w w'))
 case atStart => exact ⟨(([] : List Int)), (0), (by first | rfl | (simp; done) | (simp [*]; done)), H', ⟨Nat.le_refl _⟩, ⟨by first | exact Kd.R_nil _ _ _ _ _ | exact Kd.N_nil _ _ _ _ _ | exact Kd.V_nil _ _ _ _ _ | exact Kd.Q_nil _ _ _ _ _ | exact Kd.S_nil _ _ _ _ _⟩, ⟨by repeat (first | (with_reducible first | exact HB.out | apply below_alloc | apply Zd | apply below_drew1) | exact HB.out)⟩⟩
 case round =>
  clear H'
  try clear c1
  try clear p2
  obtain ⟨x5_1, x6_1, rfl, HA, HK1, HO_5, HB⟩ := hrel
  cases gk with
  | zero => exact absurd HA.out (by simp [r05_Match.l0])
  | succ k1 =>
   have H := HA.out
   clear HA
   simp only [r05_Match.l0] at H
   by_cases c3 : x6_1 < (l0.length : Int)
   ·rw [if_pos c3] at H
    have c3b0 : decide (x6_1 < (l0.length : Int)) = true := decide_eq_true c3
    clear c3
    by_cases c4 : x5_1.length < 17592186044416
    ·rw [if_pos c4] at H
     have LMc4 := Zm c4
     clear c4
     obtain ⟨y284, hy284⟩ : ∃ y_ : List Int, y_ = (x5_1 ++ [(-1)]) := ⟨_, rfl⟩
     replace H : (r05_Match.l0 k1 l0 l1 y284 (wrap64 (x6_1 + 1))) = some r := by first | (rw [hy284]; with_reducible exact H) | (have H2_ := (Option.bind_some _ _).symm.trans H; rw [hy284]; with_reducible exact H2_) | (have H2_ := (Option.bind_some _ _).symm.trans H; with_reducible exact H2_) | with_reducible exact H | (rw [hy284]; exact H) | exact H
     have Ny284 := Zm hy284
     clear hy284
     have H' := Zm H
     clear H
     go_wp2_with (first | ((with_reducible refine gate_builtin (b := .append) (xs := #[.tmp 18, .tmp 19]) rfl ?_); (try (refine gate_guard (by rfl) ?_; dsimp only)); at_builtin; refine Kd.R_append (Kd.int .i64) (w0 := w) w.heap.size rfl (.tmp 18) (.tmp 19) 22 3 (.int .i64 0) 8 rfl Try.underlying22 info3 rfl (by decide) (by omega) u5 x5_1 (-1) [.int .i64 (-1)] (fun _ => True) (fun _ => False) rfl rfl ?aP (fun _ hk => hk.elim) ?aF ?aO ?aB ?aS ?aL ?_; (case aP => exact rfl); (case aB => exact (by repeat (first | (with_reducible first | exact HB.out | apply below_alloc | apply Zd | apply below_drew1) | exact HB.out))); (case aF => exact (fun _ _ => trivial)); (case aO => exact (by (with_reducible repeat (first | apply Kd.R_alloc | apply Kd.R_drewN | apply Kd.R_drew)); exact HO_5.out)); (case aS => exact (below_size (by repeat (first | (with_reducible first | exact HB.out | apply below_alloc | apply Zd | apply below_drew1) | exact HB.out)))); (case aL => have := LMc4.out; omega); intro v285 w5 ho hb hg hat; rw [← Ny284.out] at ho; have n0_ := Zm (hb); have n1_ := Zm (ho); clear HB; clear HO_5; have HB := n0_; have HO286 := n1_; clear n0_ n1_; clear ho hb hg hat))
     repeat (go_quiet (first | ((with_reducible refine gate_builtin (b := .append) (xs := #[.tmp 18, .tmp 19]) rfl ?_); (try (refine gate_guard (by rfl) ?_; dsimp only)); at_builtin; refine Kd.R_append (Kd.int .i64) (w0 := w) w.heap.size rfl (.tmp 18) (.tmp 19) 22 3 (.int .i64 0) 8 rfl Try.underlying22 info3 rfl (by decide) (by omega) u5 x5_1 (-1) [.int .i64 (-1)] (fun _ => True) (fun _ => False) rfl rfl ?aP (fun _ hk => hk.elim) ?aF ?aO ?aB ?aS ?aL ?_; (case aP => exact rfl); (case aB => exact (by repeat (first | (with_reducible first | exact HB.out | apply below_alloc | apply Zd | apply below_drew1) | exact HB.out))); (case aF => exact (fun _ _ => trivial)); (case aO => exact (by (with_reducible repeat (first | apply Kd.R_alloc | apply Kd.R_drewN | apply Kd.R_drew)); exact HO_5.out)); (case aS => exact (below_size (by repeat (first | (with_reducible first | exact HB.out | apply below_alloc | apply Zd | apply below_drew1) | exact HB.out)))); (case aL => have := LMc4.out; omega); intro v285 w5 ho hb hg hat; rw [← Ny284.out] at ho; have n0_ := Zm (hb); have n1_ := Zm (ho); clear HB; clear HO_5; have HB := n0_; have HO286 := n1_; clear n0_ n1_; clear ho hb hg hat)); try go_wp2_with (first | ((with_reducible refine gate_builtin (b := .append) (xs := #[.tmp 18, .tmp 19]) rfl ?_); (try (refine gate_guard (by rfl) ?_; dsimp only)); at_builtin; refine Kd.R_append (Kd.int .i64) (w0 := w) w.heap.size rfl (.tmp 18) (.tmp 19) 22 3 (.int .i64 0) 8 rfl Try.underlying22 info3 rfl (by decide) (by omega) u5 x5_1 (-1) [.int .i64 (-1)] (fun _ => True) (fun _ => False) rfl rfl ?aP (fun _ hk => hk.elim) ?aF ?aO ?aB ?aS ?aL ?_; (case aP => exact rfl); (case aB => exact (by repeat (first | (with_reducible first | exact HB.out | apply below_alloc | apply Zd | apply below_drew1) | exact HB.out))); (case aF => exact (fun _ _ => trivial)); (case aO => exact (by (with_reducible repeat (first | apply Kd.R_alloc | apply Kd.R_drewN | apply Kd.R_drew)); exact HO_5.out)); (case aS => exact (below_size (by repeat (first | (with_reducible first | exact HB.out | apply below_alloc | apply Zd | apply below_drew1) | exact HB.out)))); (case aL => have := LMc4.out; omega); intro v285 w5 ho hb hg hat; rw [← Ny284.out] at ho; have n0_ := Zm (hb); have n1_ := Zm (ho); clear HB; clear HO_5; have HB := n0_; have HO286 := n1_; clear n0_ n1_; clear ho hb hg hat)))
     go_roundg k1
     case measure => have := HK1.out; omega
     case rel => exact ⟨(y284), (wrap64 (x6_1 + 1)), (by first | rfl | (simp; done) | (simp [*]; done)), H', ⟨by have := HK1.out; omega⟩, ⟨by (with_reducible repeat (first | apply Kd.R_alloc | apply Kd.R_drewN | apply Kd.R_drew)); first | exact HO286.out | exact Kd.R_mono HO286.out (fun _ _ => trivial)⟩, ⟨by repeat (first | (with_reducible first | exact HB.out | apply below_alloc | apply Zd | apply below_drew1) | exact HB.out)⟩⟩
    ·rw [if_neg c4] at H
     exact absurd H (by simp)
   ·rw [if_neg c3] at H
    have c3b0 : decide (x6_1 < (l0.length : Int)) = false := decide_eq_false c3
    clear c3
    have HC6 := Zm H
    clear H
    go_upto_region 6 with (fail)
    repeat (go_quiet (fail); go_upto_region 6 with (fail))
    go_cut [28] (fun v28 wc => ∃ (kq : Nat) (x28_5 : Bool), v28 = .bool x28_5 ∧ Aside0 (r05_Match.j1 kq l0 l1 x5_1 x28_5 = some r) ∧ Aside0 (kq ≤ k1) ∧ Aside0 (Kd.R (Kd.int .i64) 3 wc w.heap.size (fun _ => True) u5 x5_1) ∧ Aside0 (Below w.heap.size w wc))
    case first =>
     have H := HC6.out
     clear HC6
     by_cases c7 : (l0.length : Int) > 2000
     ·rw [if_pos c7] at H
      have c7b0 : decide (2000 < (l0.length : Int)) = true := decide_eq_true c7
      have c7b1 : decide (2000 < l0.length) = true := decide_eq_true (by omega)
      clear c7
      (first | rw [c7b0] | (simp only [i64_w, i32_w]; rw [c7b0]) | skip)
      have H' := Zm H
      clear H
      go_wp2
      repeat (go_quiet (fail); try go_wp2)
      go_meet
      case rel => exact ⟨_, (true), (by first | rfl | (simp; done) | (simp [*]; done)), H', ⟨by have := HK1.out; first | omega | exact Nat.le_refl _⟩, ⟨by (with_reducible repeat (first | apply Kd.R_alloc | apply Kd.R_drewN | apply Kd.R_drew)); first | exact HO_5.out | exact Kd.R_mono HO_5.out (fun _ _ => trivial)⟩, ⟨by repeat (first | (with_reducible first | exact HB.out | apply below_alloc | apply Zd | apply below_drew1) | exact HB.out)⟩⟩
     ·rw [if_neg c7] at H
      have c7b0 : decide (2000 < (l0.length : Int)) = false := decide_eq_false c7
      have c7b1 : decide (2000 < l0.length) = false := decide_eq_false (by omega)
      clear c7
      (first | rw [c7b0] | (simp only [i64_w, i32_w]; rw [c7b0]) | skip)
      have H' := Zm H
      clear H
      go_wp2
      repeat (go_quiet (fail); try go_wp2)
      go_meet
      case rel => exact ⟨_, (decide ((l1.length : Int) > 2000)), (by first | rfl | (simp; done) | (simp [*]; done)), H', ⟨by have := HK1.out; first | omega | exact Nat.le_refl _⟩, ⟨by (with_reducible repeat (first | apply Kd.R_alloc | apply Kd.R_drewN | apply Kd.R_drew)); first | exact HO_5.out | exact Kd.R_mono HO_5.out (fun _ _ => trivial)⟩, ⟨by repeat (first | (with_reducible first | exact HB.out | apply below_alloc | apply Zd | apply below_drew1) | exact HB.out)⟩⟩
    case rest =>
     clear HC6
     try clear c1
     try clear p2
     try clear c3
     try clear c3b0
     try clear c4
     try clear p6
     try clear c7
     try clear c7b0
     try clear c7b1
     try clear p2
     obtain ⟨kq, x28_5, rfl, HA, HJ5, HO_5, HB⟩ := hcut
     cases kq with
     | zero => exact absurd HA.out (by simp [r05_Match.j1])
     | succ kj5 =>
      have H := HA.out
      clear HA
      simp only [r05_Match.j1] at H
      by_cases c8 : x28_5 = true
      ·subst c8
       have H1 : (r05_Match.l1 kj5 l0 l1 x5_1 0) = some r := by rw [if_pos rfl] at H; exact H
       clear H
       have H := H1
       clear H1
       have HC9 := Zm H
       clear H
       go_upto_block 2 with (fail)
       repeat (go_quiet (fail); go_upto_block 2 with (fail))
       go_cut [7] (fun v7 wc => ∃ (kq : Nat) (x5_8 : List Int) (x7_8 : Int), v7 = .int .i64 x7_8 ∧ Aside0 (r05_Match.j3 kq l0 l1 x5_8 x7_8 = some r) ∧ Aside0 (kq ≤ kj5) ∧ Aside0 (Kd.R (Kd.int .i64) 3 wc w.heap.size (fun _ => True) u5 x5_8) ∧ Aside0 (Below w.heap.size w wc))
       case first =>
        have H := HC9.out
        clear HC9
        have H' := Zm H
        clear H
        go_wp2
        repeat (go_quiet (fail); try go_wp2)
        go_loopg [7] kj5 (fun kq v7 w' => ∃ (x5_3 : List Int) (x7_3 : Int), v7 = .int .i64 x7_3 ∧ Aside0 (r05_Match.l1 kq l0 l1 x5_3 x7_3 = some r) ∧ Aside0 (kq ≤ kj5) ∧ Aside0 (Kd.R (Kd.int .i64) 3 w' w.heap.size (fun _ => True) u5 x5_3) ∧ Aside0 (Below w.heap.size w w'))
        case atStart => exact ⟨(x5_1), (0), (by first | rfl | (simp; done) | (simp [*]; done)), H', ⟨Nat.le_refl _⟩, ⟨by (with_reducible repeat (first | apply Kd.R_alloc | apply Kd.R_drewN | apply Kd.R_drew)); first | exact HO_5.out | exact Kd.R_mono HO_5.out (fun _ _ => trivial)⟩, ⟨by repeat (first | (with_reducible first | exact HB.out | apply below_alloc | apply Zd | apply below_drew1) | exact HB.out)⟩⟩
        case round =>
         clear H'
         try clear c1
         try clear p2
         try clear c3
         try clear c3b0
         try clear c4
         try clear p6
         try clear c7
         try clear c7b0
         try clear c7b1
         try clear c8
         try clear p2
         try clear p6
         obtain ⟨x5_3, x7_3, rfl, HA, HK3, HO_5, HB⟩ := hrel
         cases gk with
         | zero => exact absurd HA.out (by simp [r05_Match.l1])
         | succ k3 =>
          have H := HA.out
          clear HA
          simp only [r05_Match.l1] at H
          by_cases c10 : x7_3 < (l0.length : Int)
          ·rw [if_pos c10] at H
           have c10b0 : decide (x7_3 < (l0.length : Int)) = true := decide_eq_true c10
           clear c10
           (first | rw [c10b0] | (simp only [i64_w, i32_w]; rw [c10b0]) | skip)
           by_cases c11 : x7_3 < (l1.length : Int)
           ·rw [if_pos c11] at H
            have c11b0 : decide (x7_3 < (l1.length : Int)) = true := decide_eq_true c11
            clear c11
            by_cases c12 : 0 ≤ x7_3
            ·rw [if_pos c12] at H
             have c12b0 : decide (0 ≤ x7_3) = true := decide_eq_true c12
             clear c12
             by_cases c13 : (rd l0 x7_3) = (rd l1 x7_3)
             ·rw [if_pos c13] at H
              have c13b0 : ((rd l0 x7_3) == (rd l1 x7_3)) = true := beq_iff_eq.mpr c13
              have c13b1 : ((rd l0 x7_3) != (rd l1 x7_3)) = false := bne_eq_false_iff_eq.mpr c13
              clear c13
              by_cases c14 : x7_3 < (x5_3.length : Int)
              ·rw [if_pos c14] at H
               have c14b0 : decide (x7_3 < (x5_3.length : Int)) = true := decide_eq_true c14
               clear c14
               obtain ⟨y289, hy289⟩ : ∃ y_ : List Int, y_ = (x5_3.set (x7_3 : Int).toNat x7_3) := ⟨_, rfl⟩
               replace H : (r05_Match.l1 k3 l0 l1 y289 (wrap64 (x7_3 + 1))) = some r := by first | (rw [hy289]; with_reducible exact H) | (have H2_ := (Option.bind_some _ _).symm.trans H; rw [hy289]; with_reducible exact H2_) | (have H2_ := (Option.bind_some _ _).symm.trans H; with_reducible exact H2_) | with_reducible exact H | (rw [hy289]; exact H) | exact H
               have Ny289 := Zm hy289
               clear hy289
               have H' := Zm H
               clear H
               have p287 : 0 ≤ (x7_3 : Int) := Zo (by first | (with_reducible assumption) | assumption)
               have q287 : x7_3 < (l0.length : Int) := Zo (by first | (with_reducible assumption) | assumption)
               obtain ⟨ad287, e287, hx287_0⟩ := Kd.at_int HR0.out x7_3 p287 q287
               cases e287
               replace hx287_0 := (HB.out.cell (World.block_lt_of_cell? w _ hx287_0)).trans hx287_0
               replace p287 := eq_true p287
               replace q287 := eq_true q287
               have p288 : 0 ≤ (x7_3 : Int) := Zo (by first | (with_reducible assumption) | assumption)
               have q288 : x7_3 < (l1.length : Int) := Zo (by first | (with_reducible assumption) | assumption)
               obtain ⟨ad288, e288, hx288_0⟩ := Kd.at_int HR1.out x7_3 p288 q288
               cases e288
               replace hx288_0 := (HB.out.cell (World.block_lt_of_cell? w _ hx288_0)).trans hx288_0
               replace p288 := eq_true p288
               replace q288 := eq_true q288
               have p15 : 0 ≤ (x7_3 : Int) := Zo (by first | (with_reducible assumption) | assumption)
               have q15 : (x7_3 : Int) < ((x5_3.length : Int) : Int) := Zo (by first | (with_reducible assumption) | assumption)
               obtain ⟨go15, co15, eo15, gb15, gl15, cl15, HG15⟩ := Kd.R_form HO_5.out (by omega)
               (first | cases eo15 | (injection eo15 with ea_ en_ ec_; (first | subst ea_ | (injection ea_ with ea_; subst ea_)); subst ec_; clear en_))
               have GB15 := Zm gb15
               have GG15 := Zm HG15
               clear gb15 gl15 HG15
               obtain ⟨hx15_0, hf15_0⟩ := Kd.R_celln 0 HO_5.out (x7_3 : Int) p15 q15
               replace p15 := eq_true p15
               replace q15 := eq_true q15
               have HP16 := Kd.R_putg HO_5.out (x7_3 : Int) x7_3
               go_wp2_with (first | ((with_reducible refine gate_store (t := 3) (p := 53) rfl ?_); (try (rw [drewN_self wr]; generalize hq_ : World.drewN wr _ = wr; have n0_ := Zm (Kd.R_at hq_ HO_5.out); have n1_ := Zm (below_at hq_ HB.out); clear hq_ HO_5 HB; have HO_5 := n0_; have HB := n1_; clear n0_ n1_; (try (have HP16 := Kd.R_putg HO_5.out (x7_3 : Int) x7_3)); (try (obtain ⟨hx15_0, hf15_0⟩ := Kd.R_celln 0 HO_5.out (x7_3 : Int) (of_eq_true p15) (of_eq_true q15))))); refine store_event (t := 3) (p := 53) (v := ?vo_w17) (w1 := (wr.setCell ⟨go15, (x7_3 : Int).toNat, none⟩ (.int .i64 x7_3))) ?hg ?ho ?hn ?hr ?_; (case ho => rfl); (case hg => rfl); (case hn => rfl); (case hr => first | (go_simp; done) | (go_simp; rfl)); intro w17 hw; have hg : wr.grownBy w17 (some go15) := (by rw [hw]; exact HP16.2); have hp_ : Kd.R (Kd.int .i64) 3 w17 w.heap.size (fun _ => True) (.slice (some ⟨go15, 0, none⟩) x5_3.length co15) y289 := (by rw [hw, Ny289.out]; exact HP16.1); clear HP16; have n0_ := Zm (hp_); have n1_ := Zm ((by rw [hw]; exact below_set (HB.out) GB15.out : Below w.heap.size w w17)); clear HO_5; clear HB; have HO_5 := n0_; have HB := n1_; clear n0_ n1_; clear hg hw hp_))
               repeat (go_quiet (first | ((with_reducible refine gate_store (t := 3) (p := 53) rfl ?_); (try (rw [drewN_self wr]; generalize hq_ : World.drewN wr _ = wr; have n0_ := Zm (Kd.R_at hq_ HO_5.out); have n1_ := Zm (below_at hq_ HB.out); clear hq_ HO_5 HB; have HO_5 := n0_; have HB := n1_; clear n0_ n1_; (try (have HP16 := Kd.R_putg HO_5.out (x7_3 : Int) x7_3)); (try (obtain ⟨hx15_0, hf15_0⟩ := Kd.R_celln 0 HO_5.out (x7_3 : Int) (of_eq_true p15) (of_eq_true q15))))); refine store_event (t := 3) (p := 53) (v := ?vo_w17) (w1 := (wr.setCell ⟨go15, (x7_3 : Int).toNat, none⟩ (.int .i64 x7_3))) ?hg ?ho ?hn ?hr ?_; (case ho => rfl); (case hg => rfl); (case hn => rfl); (case hr => first | (go_simp; done) | (go_simp; rfl)); intro w17 hw; have hg : wr.grownBy w17 (some go15) := (by rw [hw]; exact HP16.2); have hp_ : Kd.R (Kd.int .i64) 3 w17 w.heap.size (fun _ => True) (.slice (some ⟨go15, 0, none⟩) x5_3.length co15) y289 := (by rw [hw, Ny289.out]; exact HP16.1); clear HP16; have n0_ := Zm (hp_); have n1_ := Zm ((by rw [hw]; exact below_set (HB.out) GB15.out : Below w.heap.size w w17)); clear HO_5; clear HB; have HO_5 := n0_; have HB := n1_; clear n0_ n1_; clear hg hw hp_)); try go_wp2_with (first | ((with_reducible refine gate_store (t := 3) (p := 53) rfl ?_); (try (rw [drewN_self wr]; generalize hq_ : World.drewN wr _ = wr; have n0_ := Zm (Kd.R_at hq_ HO_5.out); have n1_ := Zm (below_at hq_ HB.out); clear hq_ HO_5 HB; have HO_5 := n0_; have HB := n1_; clear n0_ n1_; (try (have HP16 := Kd.R_putg HO_5.out (x7_3 : Int) x7_3)); (try (obtain ⟨hx15_0, hf15_0⟩ := Kd.R_celln 0 HO_5.out (x7_3 : Int) (of_eq_true p15) (of_eq_true q15))))); refine store_event (t := 3) (p := 53) (v := ?vo_w17) (w1 := (wr.setCell ⟨go15, (x7_3 : Int).toNat, none⟩ (.int .i64 x7_3))) ?hg ?ho ?hn ?hr ?_; (case ho => rfl); (case hg => rfl); (case hn => rfl); (case hr => first | (go_simp; done) | (go_simp; rfl)); intro w17 hw; have hg : wr.grownBy w17 (some go15) := (by rw [hw]; exact HP16.2); have hp_ : Kd.R (Kd.int .i64) 3 w17 w.heap.size (fun _ => True) (.slice (some ⟨go15, 0, none⟩) x5_3.length co15) y289 := (by rw [hw, Ny289.out]; exact HP16.1); clear HP16; have n0_ := Zm (hp_); have n1_ := Zm ((by rw [hw]; exact below_set (HB.out) GB15.out : Below w.heap.size w w17)); clear HO_5; clear HB; have HO_5 := n0_; have HB := n1_; clear n0_ n1_; clear hg hw hp_)))
               go_roundg k3
               case measure => have := HK1.out; have := HJ5.out; have := HK3.out; omega
               case rel => exact ⟨(y289), (wrap64 (x7_3 + 1)), (by first | rfl | (simp; done) | (simp [*]; done)), H', ⟨by have := HK1.out; have := HJ5.out; have := HK3.out; omega⟩, ⟨by (with_reducible repeat (first | apply Kd.R_alloc | apply Kd.R_drewN | apply Kd.R_drew)); first | exact HO_5.out | exact Kd.R_mono HO_5.out (fun _ _ => trivial)⟩, ⟨by repeat (first | (with_reducible first | exact HB.out | apply below_alloc | apply Zd | apply below_drew1) | exact HB.out)⟩⟩
              ·rw [if_neg c14] at H
               exact absurd H (by simp)
             ·rw [if_neg c13] at H
              have c13b0 : ((rd l0 x7_3) == (rd l1 x7_3)) = false := beq_eq_false_iff_ne.mpr c13
              have c13b1 : ((rd l0 x7_3) != (rd l1 x7_3)) = true := bne_iff_ne.mpr c13
              have H' := Zm H
              clear H
              have p287 : 0 ≤ (x7_3 : Int) := Zo (by first | (with_reducible assumption) | assumption)
              have q287 : x7_3 < (l0.length : Int) := Zo (by first | (with_reducible assumption) | assumption)
              obtain ⟨ad287, e287, hx287_0⟩ := Kd.at_int HR0.out x7_3 p287 q287
              cases e287
              replace hx287_0 := (HB.out.cell (World.block_lt_of_cell? w _ hx287_0)).trans hx287_0
              replace p287 := eq_true p287
              replace q287 := eq_true q287
              have p288 : 0 ≤ (x7_3 : Int) := Zo (by first | (with_reducible assumption) | assumption)
              have q288 : x7_3 < (l1.length : Int) := Zo (by first | (with_reducible assumption) | assumption)
              obtain ⟨ad288, e288, hx288_0⟩ := Kd.at_int HR1.out x7_3 p288 q288
              cases e288
              replace hx288_0 := (HB.out.cell (World.block_lt_of_cell? w _ hx288_0)).trans hx288_0
              replace p288 := eq_true p288
              replace q288 := eq_true q288
              go_wp2
              repeat (go_quiet (fail); try go_wp2)
              go_meet
              case rel => exact ⟨_, (x5_3), (x7_3), (by first | rfl | (simp; done) | (simp [*]; done)), H', ⟨by have := HK1.out; have := HJ5.out; have := HK3.out; first | omega | exact Nat.le_refl _⟩, ⟨by (with_reducible repeat (first | apply Kd.R_alloc | apply Kd.R_drewN | apply Kd.R_drew)); first | exact HO_5.out | exact Kd.R_mono HO_5.out (fun _ _ => trivial)⟩, ⟨by repeat (first | (with_reducible first | exact HB.out | apply below_alloc | apply Zd | apply below_drew1) | exact HB.out)⟩⟩
            ·rw [if_neg c12] at H
             exact absurd H (by simp)
           ·rw [if_neg c11] at H
            have c11b0 : decide (x7_3 < (l1.length : Int)) = false := decide_eq_false c11
            clear c11
            have H' := Zm H
            clear H
            go_wp2
            repeat (go_quiet (fail); try go_wp2)
            go_meet
            case rel => exact ⟨_, (x5_3), (x7_3), (by first | rfl | (simp; done) | (simp [*]; done)), H', ⟨by have := HK1.out; have := HJ5.out; have := HK3.out; first | omega | exact Nat.le_refl _⟩, ⟨by (with_reducible repeat (first | apply Kd.R_alloc | apply Kd.R_drewN | apply Kd.R_drew)); first | exact HO_5.out | exact Kd.R_mono HO_5.out (fun _ _ => trivial)⟩, ⟨by repeat (first | (with_reducible first | exact HB.out | apply below_alloc | apply Zd | apply below_drew1) | exact HB.out)⟩⟩
          ·rw [if_neg c10] at H
           have c10b0 : decide (x7_3 < (l0.length : Int)) = false := decide_eq_false c10
           clear c10
           (first | rw [c10b0] | (simp only [i64_w, i32_w]; rw [c10b0]) | skip)
           have H' := Zm H
           clear H
           go_wp2
           repeat (go_quiet (fail); try go_wp2)
           go_meet
           case rel => exact ⟨_, (x5_3), (x7_3), (by first | rfl | (simp; done) | (simp [*]; done)), H', ⟨by have := HK1.out; have := HJ5.out; have := HK3.out; first | omega | exact Nat.le_refl _⟩, ⟨by (with_reducible repeat (first | apply Kd.R_alloc | apply Kd.R_drewN | apply Kd.R_drew)); first | exact HO_5.out | exact Kd.R_mono HO_5.out (fun _ _ => trivial)⟩, ⟨by repeat (first | (with_reducible first | exact HB.out | apply below_alloc | apply Zd | apply below_drew1) | exact HB.out)⟩⟩
       case rest =>
        clear HC9
        try clear c1
        try clear p1
        try clear q1
        try clear hx1
        try clear p2
        try clear q2
        try clear hx2
        try clear c3
        try clear c3b0
        try clear c4
        try clear p6
        try clear c7
        try clear c7b0
        try clear c7b1
        try clear c8
        try clear c10
        try clear c10b0
        try clear c11
        try clear c11b0
        try clear c12
        try clear c12b0
        try clear c13
        try clear c13b0
        try clear c13b1
        try clear c14
        try clear c14b0
        try clear p15
        try clear q15
        try clear hx15
        try clear hf15
        try clear hx15_0
        try clear hx287_0
        try clear hx288_0
        try clear p15
        try clear p2
        try clear p287
        try clear p288
        try clear p6
        try clear q15
        try clear q287
        try clear q288
        obtain ⟨kq, x5_8, x7_8, rfl, HA, HJ8, HO_5, HB⟩ := hcut
        cases kq with
        | zero => exact absurd HA.out (by simp [r05_Match.j3])
        | succ kj8 =>
         have H := HA.out
         clear HA
         simp only [r05_Match.j3] at H
         have H' := Zm H
         clear H
         go_wp2
         repeat (go_quiet (fail); try go_wp2)
         go_loopg [8] kj8 (fun kq v8 w' => ∃ (x5_4 : List Int) (x8_4 : Int), v8 = .int .i64 x8_4 ∧ Aside0 (r05_Match.l2 kq l0 l1 x5_4 x7_8 x8_4 = some r) ∧ Aside0 (kq ≤ kj8) ∧ Aside0 (Kd.R (Kd.int .i64) 3 w' w.heap.size (fun _ => True) u5 x5_4) ∧ Aside0 (Below w.heap.size w w'))
         case atStart => exact ⟨(x5_8), (0), (by first | rfl | (simp; done) | (simp [*]; done)), H', ⟨Nat.le_refl _⟩, ⟨by (with_reducible repeat (first | apply Kd.R_alloc | apply Kd.R_drewN | apply Kd.R_drew)); first | exact HO_5.out | exact Kd.R_mono HO_5.out (fun _ _ => trivial)⟩, ⟨by repeat (first | (with_reducible first | exact HB.out | apply below_alloc | apply Zd | apply below_drew1) | exact HB.out)⟩⟩
         case round =>
          clear H'
          try clear c1
          try clear p1
          try clear q1
          try clear hx1
          try clear p2
          try clear q2
          try clear hx2
          try clear c3
          try clear c3b0
          try clear c4
          try clear p6
          try clear c7
          try clear c7b0
          try clear c7b1
          try clear c8
          try clear c10
          try clear c10b0
          try clear c11
          try clear c11b0
          try clear c12
          try clear c12b0
          try clear c13
          try clear c13b0
          try clear c13b1
          try clear c14
          try clear c14b0
          try clear p15
          try clear q15
          try clear hx15
          try clear hf15
          try clear hx15_0
          try clear hx287_0
          try clear hx288_0
          try clear p1
          try clear p15
          try clear p2
          try clear p287
          try clear p288
          try clear p6
          try clear q1
          try clear q15
          try clear q2
          try clear q287
          try clear q288
          obtain ⟨x5_4, x8_4, rfl, HA, HK4, HO_5, HB⟩ := hrel
          cases gk with
          | zero => exact absurd HA.out (by simp [r05_Match.l2])
          | succ k4 =>
           have H := HA.out
           clear HA
           simp only [r05_Match.l2] at H
           by_cases c18 : x8_4 < (wrap64 ((l0.length : Int) - x7_8))
           ·rw [if_pos c18] at H
            have c18b0 : decide (x8_4 < (wrap64 ((l0.length : Int) - x7_8))) = true := decide_eq_true c18
            clear c18
            by_cases c19 : x8_4 < (wrap64 ((l1.length : Int) - x7_8))
            ·rw [if_pos c19] at H
             have c19b0 : decide (x8_4 < (wrap64 ((l1.length : Int) - x7_8))) = true := decide_eq_true c19
             clear c19
             obtain ⟨ji20, hji20⟩ : ∃ j_ : Int, (wrap64 ((wrap64 ((l0.length : Int) - 1)) - x8_4)) = j_ := ⟨_, rfl⟩
             replace H : (if 0 ≤ (ji20) then (if (ji20) < (l0.length : Int) then (if 0 ≤ (wrap64 ((wrap64 ((l1.length : Int) - 1)) - x8_4)) then (if (wrap64 ((wrap64 ((l1.length : Int) - 1)) - x8_4)) < (l1.length : Int) then (if (rd l0 (ji20)) = (rd l1 (wrap64 ((wrap64 ((l1.length : Int) - 1)) - x8_4))) then (if (ji20) < (x5_4.length : Int) then (r05_Match.l2 k4 l0 l1 (x5_4.set ((ji20) : Int).toNat (wrap64 ((wrap64 ((l1.length : Int) - 1)) - x8_4))) x7_8 (wrap64 (x8_4 + 1))) else (none)) else (some x5_4)) else (none)) else (none)) else (none)) else (none)) = some r := by first | (rw [hji20] at H; exact H) | (simp only [hji20] at H ⊢; exact H)
             have hji20w : (IntKind.i64.wrap ((wrap64 ((l0.length : Int) - 1)) - x8_4)) = ji20 := (i64_w _).trans hji20
             by_cases c21 : 0 ≤ (ji20)
             ·rw [if_pos c21] at H
              have c21b0 : decide (0 ≤ (ji20)) = true := decide_eq_true c21
              clear c21
              by_cases c22 : (ji20) < (l0.length : Int)
              ·rw [if_pos c22] at H
               have c22b0 : decide ((ji20) < (l0.length : Int)) = true := decide_eq_true c22
               clear c22
               obtain ⟨ji23, hji23⟩ : ∃ j_ : Int, (wrap64 ((wrap64 ((l1.length : Int) - 1)) - x8_4)) = j_ := ⟨_, rfl⟩
               replace H : (if 0 ≤ (ji23) then (if (ji23) < (l1.length : Int) then (if (rd l0 (ji20)) = (rd l1 (ji23)) then (if (ji20) < (x5_4.length : Int) then (r05_Match.l2 k4 l0 l1 (x5_4.set ((ji20) : Int).toNat (ji23)) x7_8 (wrap64 (x8_4 + 1))) else (none)) else (some x5_4)) else (none)) else (none)) = some r := by first | (rw [hji23] at H; exact H) | (simp only [hji23] at H ⊢; exact H)
               have hji23w : (IntKind.i64.wrap ((wrap64 ((l1.length : Int) - 1)) - x8_4)) = ji23 := (i64_w _).trans hji23
               by_cases c24 : 0 ≤ (ji23)
               ·rw [if_pos c24] at H
                have c24b0 : decide (0 ≤ (ji23)) = true := decide_eq_true c24
                clear c24
                by_cases c25 : (ji23) < (l1.length : Int)
                ·rw [if_pos c25] at H
                 have c25b0 : decide ((ji23) < (l1.length : Int)) = true := decide_eq_true c25
                 clear c25
                 by_cases c26 : (rd l0 (ji20)) = (rd l1 (ji23))
                 ·rw [if_pos c26] at H
                  have c26b0 : ((rd l0 (ji20)) == (rd l1 (ji23))) = true := beq_iff_eq.mpr c26
                  have c26b1 : ((rd l0 (ji20)) != (rd l1 (ji23))) = false := bne_eq_false_iff_eq.mpr c26
                  clear c26
                  by_cases c27 : (ji20) < (x5_4.length : Int)
                  ·rw [if_pos c27] at H
                   have c27b0 : decide ((ji20) < (x5_4.length : Int)) = true := decide_eq_true c27
                   clear c27
                   obtain ⟨y292, hy292⟩ : ∃ y_ : List Int, y_ = (x5_4.set ((ji20) : Int).toNat (ji23)) := ⟨_, rfl⟩
                   replace H : (r05_Match.l2 k4 l0 l1 y292 x7_8 (wrap64 (x8_4 + 1))) = some r := by first | (rw [hy292]; with_reducible exact H) | (have H2_ := (Option.bind_some _ _).symm.trans H; rw [hy292]; with_reducible exact H2_) | (have H2_ := (Option.bind_some _ _).symm.trans H; with_reducible exact H2_) | with_reducible exact H | (rw [hy292]; exact H) | exact H
                   have Ny292 := Zm hy292
                   clear hy292
                   have H' := Zm H
                   clear H
                   have p290 : 0 ≤ ((ji20) : Int) := Zo (by first | (with_reducible assumption) | assumption)
                   have q290 : (ji20) < (l0.length : Int) := Zo (by first | (with_reducible assumption) | assumption)
                   obtain ⟨ad290, e290, hx290_0⟩ := Kd.at_int HR0.out (ji20) p290 q290
                   cases e290
                   replace hx290_0 := (HB.out.cell (World.block_lt_of_cell? w _ hx290_0)).trans hx290_0
                   replace p290 := eq_true p290
                   replace q290 := eq_true q290
                   have p291 : 0 ≤ ((ji23) : Int) := Zo (by first | (with_reducible assumption) | assumption)
                   have q291 : (ji23) < (l1.length : Int) := Zo (by first | (with_reducible assumption) | assumption)
                   obtain ⟨ad291, e291, hx291_0⟩ := Kd.at_int HR1.out (ji23) p291 q291
                   cases e291
                   replace hx291_0 := (HB.out.cell (World.block_lt_of_cell? w _ hx291_0)).trans hx291_0
                   replace p291 := eq_true p291
                   replace q291 := eq_true q291
                   have p28 : 0 ≤ ((ji20) : Int) := Zo (by first | (with_reducible assumption) | assumption)
                   have q28 : ((ji20) : Int) < ((x5_4.length : Int) : Int) := Zo (by first | (with_reducible assumption) | assumption)
                   obtain ⟨go28, co28, eo28, gb28, gl28, cl28, HG28⟩ := Kd.R_form HO_5.out (by omega)
                   (first | cases eo28 | (injection eo28 with ea_ en_ ec_; (first | subst ea_ | (injection ea_ with ea_; subst ea_)); subst ec_; clear en_))
                   have GB28 := Zm gb28
                   have GG28 := Zm HG28
                   clear gb28 gl28 HG28
                   obtain ⟨hx28_0, hf28_0⟩ := Kd.R_celln 0 HO_5.out ((ji20) : Int) p28 q28
                   replace p28 := eq_true p28
                   replace q28 := eq_true q28
                   have HP29 := Kd.R_putg HO_5.out ((ji20) : Int) ji23
                   go_wp2_with (first | ((with_reducible refine gate_store (t := 3) (p := 100) rfl ?_); (try (rw [drewN_self wr]; generalize hq_ : World.drewN wr _ = wr; have n0_ := Zm (Kd.R_at hq_ HO_5.out); have n1_ := Zm (below_at hq_ HB.out); clear hq_ HO_5 HB; have HO_5 := n0_; have HB := n1_; clear n0_ n1_; (try (have HP29 := Kd.R_putg HO_5.out ((ji20) : Int) ji23)); (try (obtain ⟨hx28_0, hf28_0⟩ := Kd.R_celln 0 HO_5.out ((ji20) : Int) (of_eq_true p28) (of_eq_true q28))))); refine store_event (t := 3) (p := 100) (v := ?vo_w30) (w1 := (wr.setCell ⟨go28, ((ji20) : Int).toNat, none⟩ (.int .i64 ji23))) ?hg ?ho ?hn ?hr ?_; (case ho => rfl); (case hg => rfl); (case hn => rfl); (case hr => first | (go_simp; done) | (go_simp; rfl)); intro w30 hw; have hg : wr.grownBy w30 (some go28) := (by rw [hw]; exact HP29.2); have hp_ : Kd.R (Kd.int .i64) 3 w30 w.heap.size (fun _ => True) (.slice (some ⟨go28, 0, none⟩) x5_4.length co28) y292 := (by rw [hw, Ny292.out]; exact HP29.1); clear HP29; have n0_ := Zm (hp_); have n1_ := Zm ((by rw [hw]; exact below_set (HB.out) GB28.out : Below w.heap.size w w30)); clear HO_5; clear HB; have HO_5 := n0_; have HB := n1_; clear n0_ n1_; clear hg hw hp_))
                   repeat (go_quiet (first | ((with_reducible refine gate_store (t := 3) (p := 100) rfl ?_); (try (rw [drewN_self wr]; generalize hq_ : World.drewN wr _ = wr; have n0_ := Zm (Kd.R_at hq_ HO_5.out); have n1_ := Zm (below_at hq_ HB.out); clear hq_ HO_5 HB; have HO_5 := n0_; have HB := n1_; clear n0_ n1_; (try (have HP29 := Kd.R_putg HO_5.out ((ji20) : Int) ji23)); (try (obtain ⟨hx28_0, hf28_0⟩ := Kd.R_celln 0 HO_5.out ((ji20) : Int) (of_eq_true p28) (of_eq_true q28))))); refine store_event (t := 3) (p := 100) (v := ?vo_w30) (w1 := (wr.setCell ⟨go28, ((ji20) : Int).toNat, none⟩ (.int .i64 ji23))) ?hg ?ho ?hn ?hr ?_; (case ho => rfl); (case hg => rfl); (case hn => rfl); (case hr => first | (go_simp; done) | (go_simp; rfl)); intro w30 hw; have hg : wr.grownBy w30 (some go28) := (by rw [hw]; exact HP29.2); have hp_ : Kd.R (Kd.int .i64) 3 w30 w.heap.size (fun _ => True) (.slice (some ⟨go28, 0, none⟩) x5_4.length co28) y292 := (by rw [hw, Ny292.out]; exact HP29.1); clear HP29; have n0_ := Zm (hp_); have n1_ := Zm ((by rw [hw]; exact below_set (HB.out) GB28.out : Below w.heap.size w w30)); clear HO_5; clear HB; have HO_5 := n0_; have HB := n1_; clear n0_ n1_; clear hg hw hp_)); try go_wp2_with (first | ((with_reducible refine gate_store (t := 3) (p := 100) rfl ?_); (try (rw [drewN_self wr]; generalize hq_ : World.drewN wr _ = wr; have n0_ := Zm (Kd.R_at hq_ HO_5.out); have n1_ := Zm (below_at hq_ HB.out); clear hq_ HO_5 HB; have HO_5 := n0_; have HB := n1_; clear n0_ n1_; (try (have HP29 := Kd.R_putg HO_5.out ((ji20) : Int) ji23)); (try (obtain ⟨hx28_0, hf28_0⟩ := Kd.R_celln 0 HO_5.out ((ji20) : Int) (of_eq_true p28) (of_eq_true q28))))); refine store_event (t := 3) (p := 100) (v := ?vo_w30) (w1 := (wr.setCell ⟨go28, ((ji20) : Int).toNat, none⟩ (.int .i64 ji23))) ?hg ?ho ?hn ?hr ?_; (case ho => rfl); (case hg => rfl); (case hn => rfl); (case hr => first | (go_simp; done) | (go_simp; rfl)); intro w30 hw; have hg : wr.grownBy w30 (some go28) := (by rw [hw]; exact HP29.2); have hp_ : Kd.R (Kd.int .i64) 3 w30 w.heap.size (fun _ => True) (.slice (some ⟨go28, 0, none⟩) x5_4.length co28) y292 := (by rw [hw, Ny292.out]; exact HP29.1); clear HP29; have n0_ := Zm (hp_); have n1_ := Zm ((by rw [hw]; exact below_set (HB.out) GB28.out : Below w.heap.size w w30)); clear HO_5; clear HB; have HO_5 := n0_; have HB := n1_; clear n0_ n1_; clear hg hw hp_)))
                   go_roundg k4
                   case measure => have := HK1.out; have := HJ5.out; have := HJ8.out; have := HK4.out; omega
                   case rel => exact ⟨(y292), (wrap64 (x8_4 + 1)), (by first | rfl | (simp; done) | (simp [*]; done)), H', ⟨by have := HK1.out; have := HJ5.out; have := HJ8.out; have := HK4.out; omega⟩, ⟨by (with_reducible repeat (first | apply Kd.R_alloc | apply Kd.R_drewN | apply Kd.R_drew)); first | exact HO_5.out | exact Kd.R_mono HO_5.out (fun _ _ => trivial)⟩, ⟨by repeat (first | (with_reducible first | exact HB.out | apply below_alloc | apply Zd | apply below_drew1) | exact HB.out)⟩⟩
                  ·rw [if_neg c27] at H
                   exact absurd H (by simp)
                 ·rw [if_neg c26] at H
                  have c26b0 : ((rd l0 (ji20)) == (rd l1 (ji23))) = false := beq_eq_false_iff_ne.mpr c26
                  have c26b1 : ((rd l0 (ji20)) != (rd l1 (ji23))) = true := bne_iff_ne.mpr c26
                  obtain rfl := Option.some.inj H
                  have p290 : 0 ≤ ((ji20) : Int) := Zo (by first | (with_reducible assumption) | assumption)
                  have q290 : (ji20) < (l0.length : Int) := Zo (by first | (with_reducible assumption) | assumption)
                  obtain ⟨ad290, e290, hx290_0⟩ := Kd.at_int HR0.out (ji20) p290 q290
                  cases e290
                  replace hx290_0 := (HB.out.cell (World.block_lt_of_cell? w _ hx290_0)).trans hx290_0
                  replace p290 := eq_true p290
                  replace q290 := eq_true q290
                  have p291 : 0 ≤ ((ji23) : Int) := Zo (by first | (with_reducible assumption) | assumption)
                  have q291 : (ji23) < (l1.length : Int) := Zo (by first | (with_reducible assumption) | assumption)
                  obtain ⟨ad291, e291, hx291_0⟩ := Kd.at_int HR1.out (ji23) p291 q291
                  cases e291
                  replace hx291_0 := (HB.out.cell (World.block_lt_of_cell? w _ hx291_0)).trans hx291_0
                  replace p291 := eq_true p291
                  replace q291 := eq_true q291
                  go_wp2
                  repeat (go_quiet (fail); try go_wp2)
                  go_ret
                  exact ⟨_, by first | rfl | (simp [errW_none, errW_some] <;> rfl) | (simp only [← hji20, ← hji23]; first | rfl | (simp [errW_none, errW_some] <;> rfl)) | (simp [*, errW_none, errW_some] <;> rfl), by (with_reducible repeat (first | apply Kd.R_alloc | apply Kd.R_drewN | apply Kd.R_drew)); exact HO_5.out, by repeat (first | (with_reducible first | exact HB.out | apply below_alloc | apply Zd | apply below_drew1) | exact HB.out)⟩
                ·rw [if_neg c25] at H
                 exact absurd H (by simp)
               ·rw [if_neg c24] at H
                exact absurd H (by simp)
              ·rw [if_neg c22] at H
               exact absurd H (by simp)
             ·rw [if_neg c21] at H
              exact absurd H (by simp)
            ·rw [if_neg c19] at H
             have c19b0 : decide (x8_4 < (wrap64 ((l1.length : Int) - x7_8))) = false := decide_eq_false c19
             clear c19
             obtain rfl := Option.some.inj H
             go_wp2
             repeat (go_quiet (fail); try go_wp2)
             go_ret
             exact ⟨_, by first | rfl | (simp [errW_none, errW_some] <;> rfl) | (simp [*, errW_none, errW_some] <;> rfl), by (with_reducible repeat (first | apply Kd.R_alloc | apply Kd.R_drewN | apply Kd.R_drew)); exact HO_5.out, by repeat (first | (with_reducible first | exact HB.out | apply below_alloc | apply Zd | apply below_drew1) | exact HB.out)⟩
           ·rw [if_neg c18] at H
            have c18b0 : decide (x8_4 < (wrap64 ((l0.length : Int) - x7_8))) = false := decide_eq_false c18
            clear c18
            obtain rfl := Option.some.inj H
            go_wp2
            repeat (go_quiet (fail); try go_wp2)
            go_ret
            exact ⟨_, by first | rfl | (simp [errW_none, errW_some] <;> rfl) | (simp [*, errW_none, errW_some] <;> rfl), by (with_reducible repeat (first | apply Kd.R_alloc | apply Kd.R_drewN | apply Kd.R_drew)); exact HO_5.out, by repeat (first | (with_reducible first | exact HB.out | apply below_alloc | apply Zd | apply below_drew1) | exact HB.out)⟩
      ·replace c8 := Bool.eq_false_iff.mpr c8
       subst c8
       have H1 : ((r05_table.f kj5 l0 l1).bind fun t293 => (r05_Match.l3 kj5 l0 l1 x5_1 t293 0 0)) = some r := by rw [if_neg (show ¬ (false = true) by decide)] at H; exact H
       clear H
       have H := H1
       clear H1
       replace H := Option.bind_eq_some_iff.mp H
       obtain ⟨t293, A310, H⟩ := H
       replace H : (r05_Match.l3 kj5 l0 l1 x5_1 t293 0 0) = some r := H
       have A31 := Zm A310
       clear A310
       have H' := Zm H
       clear H
       go_wp2_with (first | (go_at_call 36; (with_reducible refine (r05_table.calls kj5 _ _ l0 _ _ l1 t293 _ ?side1 ?side2 ?side3 ?side4 A31.out).mono ?_); (case side1 => repeat (first | exact (Kd.C_below HR0.out HB.out) | (with_reducible refine Kd.C_alloc ?_ _) | (with_reducible refine Kd.C_drewN ?_ _) | (with_reducible refine Kd.C_drew ?_))); (case side2 => exact HC0.out); (case side3 => repeat (first | exact (Kd.C_below HR1.out HB.out) | (with_reducible refine Kd.C_alloc ?_ _) | (with_reducible refine Kd.C_drewN ?_ _) | (with_reducible refine Kd.C_drew ?_))); (case side4 => exact HC1.out); rintro e w32 ⟨v294, rfl, ho0, hb⟩; have n0_ := Zm (Kd.R_below (by (with_reducible repeat (first | apply Kd.R_alloc | apply Kd.R_drewN | apply Kd.R_drew)); exact HO_5.out) hb); have n1_ := Zm (Kd.S_lower (Kd.S_new' ho0 (Kd.R_lt (by (with_reducible repeat (first | apply Kd.R_alloc | apply Kd.R_drewN | apply Kd.R_drew)); exact HO_5.out))) (below_size (by repeat (first | (with_reducible first | exact HB.out | apply below_alloc | apply Zd | apply below_drew1) | exact HB.out)))); have n2_ := Zm (below_step (by repeat (first | (with_reducible first | exact HB.out | apply below_alloc | apply Zd | apply below_drew1) | exact HB.out)) hb); clear HO_5; clear HB; have HO_5 := n0_; have HO295 := n1_; have HB := n2_; clear n0_ n1_ n2_; (try clear hb); (try clear hb2); (try clear hk); (try clear hi); (try clear ho0)))
       repeat (go_quiet (first | (go_at_call 36; (with_reducible refine (r05_table.calls kj5 _ _ l0 _ _ l1 t293 _ ?side1 ?side2 ?side3 ?side4 A31.out).mono ?_); (case side1 => repeat (first | exact (Kd.C_below HR0.out HB.out) | (with_reducible refine Kd.C_alloc ?_ _) | (with_reducible refine Kd.C_drewN ?_ _) | (with_reducible refine Kd.C_drew ?_))); (case side2 => exact HC0.out); (case side3 => repeat (first | exact (Kd.C_below HR1.out HB.out) | (with_reducible refine Kd.C_alloc ?_ _) | (with_reducible refine Kd.C_drewN ?_ _) | (with_reducible refine Kd.C_drew ?_))); (case side4 => exact HC1.out); rintro e w32 ⟨v294, rfl, ho0, hb⟩; have n0_ := Zm (Kd.R_below (by (with_reducible repeat (first | apply Kd.R_alloc | apply Kd.R_drewN | apply Kd.R_drew)); exact HO_5.out) hb); have n1_ := Zm (Kd.S_lower (Kd.S_new' ho0 (Kd.R_lt (by (with_reducible repeat (first | apply Kd.R_alloc | apply Kd.R_drewN | apply Kd.R_drew)); exact HO_5.out))) (below_size (by repeat (first | (with_reducible first | exact HB.out | apply below_alloc | apply Zd | apply below_drew1) | exact HB.out)))); have n2_ := Zm (below_step (by repeat (first | (with_reducible first | exact HB.out | apply below_alloc | apply Zd | apply below_drew1) | exact HB.out)) hb); clear HO_5; clear HB; have HO_5 := n0_; have HO295 := n1_; have HB := n2_; clear n0_ n1_ n2_; (try clear hb); (try clear hb2); (try clear hk); (try clear hi); (try clear ho0))); try go_wp2_with (first | (go_at_call 36; (with_reducible refine (r05_table.calls kj5 _ _ l0 _ _ l1 t293 _ ?side1 ?side2 ?side3 ?side4 A31.out).mono ?_); (case side1 => repeat (first | exact (Kd.C_below HR0.out HB.out) | (with_reducible refine Kd.C_alloc ?_ _) | (with_reducible refine Kd.C_drewN ?_ _) | (with_reducible refine Kd.C_drew ?_))); (case side2 => exact HC0.out); (case side3 => repeat (first | exact (Kd.C_below HR1.out HB.out) | (with_reducible refine Kd.C_alloc ?_ _) | (with_reducible refine Kd.C_drewN ?_ _) | (with_reducible refine Kd.C_drew ?_))); (case side4 => exact HC1.out); rintro e w32 ⟨v294, rfl, ho0, hb⟩; have n0_ := Zm (Kd.R_below (by (with_reducible repeat (first | apply Kd.R_alloc | apply Kd.R_drewN | apply Kd.R_drew)); exact HO_5.out) hb); have n1_ := Zm (Kd.S_lower (Kd.S_new' ho0 (Kd.R_lt (by (with_reducible repeat (first | apply Kd.R_alloc | apply Kd.R_drewN | apply Kd.R_drew)); exact HO_5.out))) (below_size (by repeat (first | (with_reducible first | exact HB.out | apply below_alloc | apply Zd | apply below_drew1) | exact HB.out)))); have n2_ := Zm (below_step (by repeat (first | (with_reducible first | exact HB.out | apply below_alloc | apply Zd | apply below_drew1) | exact HB.out)) hb); clear HO_5; clear HB; have HO_5 := n0_; have HO295 := n1_; have HB := n2_; clear n0_ n1_ n2_; (try clear hb); (try clear hb2); (try clear hk); (try clear hi); (try clear ho0))))
       go_loopg [10, 11] kj5 (fun kq v10 v11 w' => ∃ (x5_3 : List Int) (x10_3 : Int) (x11_3 : Int), v10 = .int .i64 x10_3 ∧ v11 = .int .i64 x11_3 ∧ Aside0 (r05_Match.l3 kq l0 l1 x5_3 t293 x10_3 x11_3 = some r) ∧ Aside0 (kq ≤ kj5) ∧ Aside0 (Kd.R (Kd.int .i64) 3 w' w.heap.size (fun _ => True) u5 x5_3) ∧ Aside0 (Kd.S (Kd.slice 3 (Kd.int .i64)) 22 w' w.heap.size (fun k_ => some k_ ≠ (u5 : Value).ownBlock) v294 t293) ∧ Aside0 (Below w.heap.size w w'))
       case atStart => exact ⟨(x5_1), (0), (0), (by first | rfl | (simp; done) | (simp [*]; done)), (by first | rfl | (simp; done) | (simp [*]; done)), H', ⟨Nat.le_refl _⟩, ⟨by (with_reducible repeat (first | apply Kd.R_alloc | apply Kd.R_drewN | apply Kd.R_drew)); first | exact HO_5.out | exact Kd.R_mono HO_5.out (fun _ _ => trivial)⟩, ⟨by (with_reducible repeat (first | apply Kd.S_alloc | apply Kd.S_drewN | apply Kd.S_drew)); exact Kd.S_mono HO295.out (fun _ hk => hk.2)⟩, ⟨by repeat (first | (with_reducible first | exact HB.out | apply below_alloc | apply Zd | apply below_drew1) | exact HB.out)⟩⟩
       case round =>
        clear H'
        try clear c1
        try clear p1
        try clear q1
        try clear hx1
        try clear c2
        try clear p2
        try clear q2
        try clear hx2
        try clear hf2
        try clear c3
        try clear c3b0
        try clear c4
        try clear p6
        try clear c7
        try clear c7b0
        try clear c7b1
        try clear c8
        try clear c10
        try clear c10b0
        try clear c11
        try clear c11b0
        try clear c12
        try clear c12b0
        try clear c13
        try clear c13b0
        try clear c13b1
        try clear c14
        try clear c14b0
        try clear p15
        try clear q15
        try clear hx15
        try clear hf15
        try clear c18
        try clear c18b0
        try clear c19
        try clear c19b0
        try clear c21
        try clear c21b0
        try clear c22
        try clear c22b0
        try clear c24
        try clear c24b0
        try clear c25
        try clear c25b0
        try clear c26
        try clear c26b0
        try clear c26b1
        try clear c27
        try clear c27b0
        try clear p28
        try clear q28
        try clear hx28
        try clear hf28
        try clear p29
        try clear q29
        try clear hx29
        try clear c31
        try clear hx15_0
        try clear hx287_0
        try clear hx288_0
        try clear hx28_0
        try clear hx290_0
        try clear hx291_0
        try clear p1
        try clear p15
        try clear p2
        try clear p28
        try clear p287
        try clear p288
        try clear p290
        try clear p291
        try clear p6
        try clear q1
        try clear q15
        try clear q2
        try clear q28
        try clear q287
        try clear q288
        try clear q290
        try clear q291
        obtain ⟨x5_3, x10_3, x11_3, rfl, rfl, HA, HK3, HO_5, HO_9, HB⟩ := hrel
        cases gk with
        | zero => exact absurd HA.out (by simp [r05_Match.l3])
        | succ k3 =>
         have H := HA.out
         clear HA
         simp only [r05_Match.l3] at H
         have HC33 := Zm H
         clear H
         go_upto_region 19 with (fail)
         repeat (go_quiet (fail); go_upto_region 19 with (fail))
         go_cut [116] (fun v116 wc => ∃ (kq : Nat) (x116_32 : Bool), v116 = .bool x116_32 ∧ Aside0 (r05_Match.j6 kq l0 l1 x5_3 t293 x10_3 x11_3 x116_32 = some r) ∧ Aside0 (kq ≤ k3) ∧ Aside0 (Kd.R (Kd.int .i64) 3 wc w.heap.size (fun _ => True) u5 x5_3) ∧ Aside0 (Kd.S (Kd.slice 3 (Kd.int .i64)) 22 wc w.heap.size (fun k_ => some k_ ≠ (u5 : Value).ownBlock) v294 t293) ∧ Aside0 (Below w.heap.size w wc))
         case first =>
          have H := HC33.out
          clear HC33
          by_cases c34 : x10_3 < (l0.length : Int)
          ·rw [if_pos c34] at H
           have c34b0 : decide (x10_3 < (l0.length : Int)) = true := decide_eq_true c34
           clear c34
           (first | rw [c34b0] | (simp only [i64_w, i32_w]; rw [c34b0]) | skip)
           have H' := Zm H
           clear H
           go_wp2
           repeat (go_quiet (fail); try go_wp2)
           go_meet
           case rel => exact ⟨_, (decide (x11_3 < (l1.length : Int))), (by first | rfl | (simp; done) | (simp [*]; done)), H', ⟨by have := HK1.out; have := HJ5.out; have := HK3.out; first | omega | exact Nat.le_refl _⟩, ⟨by (with_reducible repeat (first | apply Kd.R_alloc | apply Kd.R_drewN | apply Kd.R_drew)); first | exact HO_5.out | exact Kd.R_mono HO_5.out (fun _ _ => trivial)⟩, ⟨by (with_reducible repeat (first | apply Kd.S_alloc | apply Kd.S_drewN | apply Kd.S_drew)); exact HO_9.out⟩, ⟨by repeat (first | (with_reducible first | exact HB.out | apply below_alloc | apply Zd | apply below_drew1) | exact HB.out)⟩⟩
          ·rw [if_neg c34] at H
           have c34b0 : decide (x10_3 < (l0.length : Int)) = false := decide_eq_false c34
           clear c34
           (first | rw [c34b0] | (simp only [i64_w, i32_w]; rw [c34b0]) | skip)
           have H' := Zm H
           clear H
           go_wp2
           repeat (go_quiet (fail); try go_wp2)
           go_meet
           case rel => exact ⟨_, (false), (by first | rfl | (simp; done) | (simp [*]; done)), H', ⟨by have := HK1.out; have := HJ5.out; have := HK3.out; first | omega | exact Nat.le_refl _⟩, ⟨by (with_reducible repeat (first | apply Kd.R_alloc | apply Kd.R_drewN | apply Kd.R_drew)); first | exact HO_5.out | exact Kd.R_mono HO_5.out (fun _ _ => trivial)⟩, ⟨by (with_reducible repeat (first | apply Kd.S_alloc | apply Kd.S_drewN | apply Kd.S_drew)); exact HO_9.out⟩, ⟨by repeat (first | (with_reducible first | exact HB.out | apply below_alloc | apply Zd | apply below_drew1) | exact HB.out)⟩⟩
         case rest =>
          clear HC33
          try clear c1
          try clear p1
          try clear q1
          try clear hx1
          try clear c2
          try clear p2
          try clear q2
          try clear hx2
          try clear hf2
          try clear c3
          try clear c3b0
          try clear c4
          try clear p6
          try clear c7
          try clear c7b0
          try clear c7b1
          try clear c8
          try clear c10
          try clear c10b0
          try clear c11
          try clear c11b0
          try clear c12
          try clear c12b0
          try clear c13
          try clear c13b0
          try clear c13b1
          try clear c14
          try clear c14b0
          try clear p15
          try clear q15
          try clear hx15
          try clear hf15
          try clear c18
          try clear c18b0
          try clear c19
          try clear c19b0
          try clear c21
          try clear c21b0
          try clear c22
          try clear c22b0
          try clear c24
          try clear c24b0
          try clear c25
          try clear c25b0
          try clear c26
          try clear c26b0
          try clear c26b1
          try clear c27
          try clear c27b0
          try clear p28
          try clear q28
          try clear hx28
          try clear hf28
          try clear p29
          try clear q29
          try clear hx29
          try clear c31
          try clear c34
          try clear c34b0
          try clear hx15_0
          try clear hx287_0
          try clear hx288_0
          try clear hx28_0
          try clear hx290_0
          try clear hx291_0
          try clear p1
          try clear p15
          try clear p2
          try clear p28
          try clear p287
          try clear p288
          try clear p29
          try clear p290
          try clear p291
          try clear p6
          try clear q1
          try clear q15
          try clear q2
          try clear q28
          try clear q287
          try clear q288
          try clear q29
          try clear q290
          try clear q291
          obtain ⟨kq, x116_32, rfl, HA, HJ32, HO_5, HO_9, HB⟩ := hcut
          cases kq with
          | zero => exact absurd HA.out (by simp [r05_Match.j6])
          | succ kj32 =>
           have H := HA.out
           clear HA
           simp only [r05_Match.j6] at H
           by_cases c35 : x116_32 = true
           ·subst c35
            have H1 : (if 0 ≤ x10_3 then (if x10_3 < (l0.length : Int) then (if 0 ≤ x11_3 then (if x11_3 < (l1.length : Int) then (if (rd l0 x10_3) = (rd l1 x11_3) then (if x10_3 < (x5_3.length : Int) then (r05_Match.l3 kj32 l0 l1 (x5_3.set (x10_3 : Int).toNat x11_3) t293 (wrap64 (x10_3 + 1)) (wrap64 (x11_3 + 1))) else (none)) else (if 0 ≤ (wrap64 (x10_3 + 1)) then (if (wrap64 (x10_3 + 1)) < (t293.length : Int) then (if x11_3 < ((rd_L2 t293 (wrap64 (x10_3 + 1))).length : Int) then (if x10_3 < (t293.length : Int) then (if 0 ≤ (wrap64 (x11_3 + 1)) then (if (wrap64 (x11_3 + 1)) < ((rd_L2 t293 x10_3).length : Int) then (if (rd (rd_L2 t293 (wrap64 (x10_3 + 1))) x11_3) ≥ (rd (rd_L2 t293 x10_3) (wrap64 (x11_3 + 1))) then (r05_Match.l3 kj32 l0 l1 x5_3 t293 (wrap64 (x10_3 + 1)) x11_3) else (r05_Match.l3 kj32 l0 l1 x5_3 t293 x10_3 (wrap64 (x11_3 + 1)))) else (none)) else (none)) else (none)) else (none)) else (none)) else (none))) else (none)) else (none)) else (none)) else (none)) = some r := by rw [if_pos rfl] at H; exact H
            clear H
            have H := H1
            clear H1
            by_cases c36 : 0 ≤ x10_3
            ·rw [if_pos c36] at H
             have c36b0 : decide (0 ≤ x10_3) = true := decide_eq_true c36
             clear c36
             by_cases c37 : x10_3 < (l0.length : Int)
             ·rw [if_pos c37] at H
              have c37b0 : decide (x10_3 < (l0.length : Int)) = true := decide_eq_true c37
              clear c37
              by_cases c38 : 0 ≤ x11_3
              ·rw [if_pos c38] at H
               have c38b0 : decide (0 ≤ x11_3) = true := decide_eq_true c38
               clear c38
               by_cases c39 : x11_3 < (l1.length : Int)
               ·rw [if_pos c39] at H
                have c39b0 : decide (x11_3 < (l1.length : Int)) = true := decide_eq_true c39
                clear c39
                by_cases c40 : (rd l0 x10_3) = (rd l1 x11_3)
                ·rw [if_pos c40] at H
                 have c40b0 : ((rd l0 x10_3) == (rd l1 x11_3)) = true := beq_iff_eq.mpr c40
                 have c40b1 : ((rd l0 x10_3) != (rd l1 x11_3)) = false := bne_eq_false_iff_eq.mpr c40
                 clear c40
                 by_cases c41 : x10_3 < (x5_3.length : Int)
                 ·rw [if_pos c41] at H
                  have c41b0 : decide (x10_3 < (x5_3.length : Int)) = true := decide_eq_true c41
                  clear c41
                  obtain ⟨y298, hy298⟩ : ∃ y_ : List Int, y_ = (x5_3.set (x10_3 : Int).toNat x11_3) := ⟨_, rfl⟩
                  replace H : (r05_Match.l3 kj32 l0 l1 y298 t293 (wrap64 (x10_3 + 1)) (wrap64 (x11_3 + 1))) = some r := by first | (rw [hy298]; with_reducible exact H) | (have H2_ := (Option.bind_some _ _).symm.trans H; rw [hy298]; with_reducible exact H2_) | (have H2_ := (Option.bind_some _ _).symm.trans H; with_reducible exact H2_) | with_reducible exact H | (rw [hy298]; exact H) | exact H
                  have Ny298 := Zm hy298
                  clear hy298
                  have H' := Zm H
                  clear H
                  have p296 : 0 ≤ (x10_3 : Int) := Zo (by first | (with_reducible assumption) | assumption)
                  have q296 : x10_3 < (l0.length : Int) := Zo (by first | (with_reducible assumption) | assumption)
                  obtain ⟨ad296, e296, hx296_0⟩ := Kd.at_int HR0.out x10_3 p296 q296
                  cases e296
                  replace hx296_0 := (HB.out.cell (World.block_lt_of_cell? w _ hx296_0)).trans hx296_0
                  replace p296 := eq_true p296
                  replace q296 := eq_true q296
                  have p297 : 0 ≤ (x11_3 : Int) := Zo (by first | (with_reducible assumption) | assumption)
                  have q297 : x11_3 < (l1.length : Int) := Zo (by first | (with_reducible assumption) | assumption)
                  obtain ⟨ad297, e297, hx297_0⟩ := Kd.at_int HR1.out x11_3 p297 q297
                  cases e297
                  replace hx297_0 := (HB.out.cell (World.block_lt_of_cell? w _ hx297_0)).trans hx297_0
                  replace p297 := eq_true p297
                  replace q297 := eq_true q297
                  have p42 : 0 ≤ (x10_3 : Int) := Zo (by first | (with_reducible assumption) | assumption)
                  have q42 : (x10_3 : Int) < ((x5_3.length : Int) : Int) := Zo (by first | (with_reducible assumption) | assumption)
                  obtain ⟨go42, co42, eo42, gb42, gl42, cl42, HG42⟩ := Kd.R_form HO_5.out (by omega)
                  (first | cases eo42 | (injection eo42 with ea_ en_ ec_; (first | subst ea_ | (injection ea_ with ea_; subst ea_)); subst ec_; clear en_))
                  have GB42 := Zm gb42
                  have GG42 := Zm HG42
                  clear gb42 gl42 HG42
                  obtain ⟨hx42_0, hf42_0⟩ := Kd.R_celln 0 HO_5.out (x10_3 : Int) p42 q42
                  replace p42 := eq_true p42
                  replace q42 := eq_true q42
                  have HP43 := Kd.R_putg HO_5.out (x10_3 : Int) x11_3
                  go_wp2_with (first | ((with_reducible refine gate_store (t := 3) (p := 132) rfl ?_); (try (rw [drewN_self wc]; generalize hq_ : World.drewN wc _ = wc; have n0_ := Zm (Kd.R_at hq_ HO_5.out); have n1_ := Zm (Kd.S_at hq_ HO_9.out); have n2_ := Zm (below_at hq_ HB.out); clear hq_ HO_5 HO_9 HB; have HO_5 := n0_; have HO_9 := n1_; have HB := n2_; clear n0_ n1_ n2_; (try (have HP43 := Kd.R_putg HO_5.out (x10_3 : Int) x11_3)); (try (obtain ⟨hx42_0, hf42_0⟩ := Kd.R_celln 0 HO_5.out (x10_3 : Int) (of_eq_true p42) (of_eq_true q42))))); refine store_event (t := 3) (p := 132) (v := ?vo_w44) (w1 := (wc.setCell ⟨go42, (x10_3 : Int).toNat, none⟩ (.int .i64 x11_3))) ?hg ?ho ?hn ?hr ?_; (case ho => rfl); (case hg => rfl); (case hn => rfl); (case hr => first | (go_simp; done) | (go_simp; rfl)); intro w44 hw; have hg : wc.grownBy w44 (some go42) := (by rw [hw]; exact HP43.2); have hp_ : Kd.R (Kd.int .i64) 3 w44 w.heap.size (fun _ => True) (.slice (some ⟨go42, 0, none⟩) x5_3.length co42) y298 := (by rw [hw, Ny298.out]; exact HP43.1); clear HP43; have n0_ := Zm (hp_); have n1_ := Zm (Kd.S_after (v := (.slice (some ⟨go42, 0, none⟩) x5_3.length co42)) (v1 := (.slice (some ⟨go42, 0, none⟩) x5_3.length co42)) (ok := (fun _ => True)) (by (with_reducible repeat (first | apply Kd.S_alloc | apply Kd.S_drewN | apply Kd.S_drew)); exact Kd.S_mono HO_9.out (fun _ hk => ⟨trivial, hk⟩)) hg (.inl rfl)); have n2_ := Zm ((by rw [hw]; exact below_set (HB.out) GB42.out : Below w.heap.size w w44)); clear HO_5; clear HO_9; clear HB; have HO_5 := n0_; have HO_9 := n1_; have HB := n2_; clear n0_ n1_ n2_; clear hg hw hp_))
                  repeat (go_quiet (first | ((with_reducible refine gate_store (t := 3) (p := 132) rfl ?_); (try (rw [drewN_self wc]; generalize hq_ : World.drewN wc _ = wc; have n0_ := Zm (Kd.R_at hq_ HO_5.out); have n1_ := Zm (Kd.S_at hq_ HO_9.out); have n2_ := Zm (below_at hq_ HB.out); clear hq_ HO_5 HO_9 HB; have HO_5 := n0_; have HO_9 := n1_; have HB := n2_; clear n0_ n1_ n2_; (try (have HP43 := Kd.R_putg HO_5.out (x10_3 : Int) x11_3)); (try (obtain ⟨hx42_0, hf42_0⟩ := Kd.R_celln 0 HO_5.out (x10_3 : Int) (of_eq_true p42) (of_eq_true q42))))); refine store_event (t := 3) (p := 132) (v := ?vo_w44) (w1 := (wc.setCell ⟨go42, (x10_3 : Int).toNat, none⟩ (.int .i64 x11_3))) ?hg ?ho ?hn ?hr ?_; (case ho => rfl); (case hg => rfl); (case hn => rfl); (case hr => first | (go_simp; done) | (go_simp; rfl)); intro w44 hw; have hg : wc.grownBy w44 (some go42) := (by rw [hw]; exact HP43.2); have hp_ : Kd.R (Kd.int .i64) 3 w44 w.heap.size (fun _ => True) (.slice (some ⟨go42, 0, none⟩) x5_3.length co42) y298 := (by rw [hw, Ny298.out]; exact HP43.1); clear HP43; have n0_ := Zm (hp_); have n1_ := Zm (Kd.S_after (v := (.slice (some ⟨go42, 0, none⟩) x5_3.length co42)) (v1 := (.slice (some ⟨go42, 0, none⟩) x5_3.length co42)) (ok := (fun _ => True)) (by (with_reducible repeat (first | apply Kd.S_alloc | apply Kd.S_drewN | apply Kd.S_drew)); exact Kd.S_mono HO_9.out (fun _ hk => ⟨trivial, hk⟩)) hg (.inl rfl)); have n2_ := Zm ((by rw [hw]; exact below_set (HB.out) GB42.out : Below w.heap.size w w44)); clear HO_5; clear HO_9; clear HB; have HO_5 := n0_; have HO_9 := n1_; have HB := n2_; clear n0_ n1_ n2_; clear hg hw hp_)); try go_wp2_with (first | ((with_reducible refine gate_store (t := 3) (p := 132) rfl ?_); (try (rw [drewN_self wc]; generalize hq_ : World.drewN wc _ = wc; have n0_ := Zm (Kd.R_at hq_ HO_5.out); have n1_ := Zm (Kd.S_at hq_ HO_9.out); have n2_ := Zm (below_at hq_ HB.out); clear hq_ HO_5 HO_9 HB; have HO_5 := n0_; have HO_9 := n1_; have HB := n2_; clear n0_ n1_ n2_; (try (have HP43 := Kd.R_putg HO_5.out (x10_3 : Int) x11_3)); (try (obtain ⟨hx42_0, hf42_0⟩ := Kd.R_celln 0 HO_5.out (x10_3 : Int) (of_eq_true p42) (of_eq_true q42))))); refine store_event (t := 3) (p := 132) (v := ?vo_w44) (w1 := (wc.setCell ⟨go42, (x10_3 : Int).toNat, none⟩ (.int .i64 x11_3))) ?hg ?ho ?hn ?hr ?_; (case ho => rfl); (case hg => rfl); (case hn => rfl); (case hr => first | (go_simp; done) | (go_simp; rfl)); intro w44 hw; have hg : wc.grownBy w44 (some go42) := (by rw [hw]; exact HP43.2); have hp_ : Kd.R (Kd.int .i64) 3 w44 w.heap.size (fun _ => True) (.slice (some ⟨go42, 0, none⟩) x5_3.length co42) y298 := (by rw [hw, Ny298.out]; exact HP43.1); clear HP43; have n0_ := Zm (hp_); have n1_ := Zm (Kd.S_after (v := (.slice (some ⟨go42, 0, none⟩) x5_3.length co42)) (v1 := (.slice (some ⟨go42, 0, none⟩) x5_3.length co42)) (ok := (fun _ => True)) (by (with_reducible repeat (first | apply Kd.S_alloc | apply Kd.S_drewN | apply Kd.S_drew)); exact Kd.S_mono HO_9.out (fun _ hk => ⟨trivial, hk⟩)) hg (.inl rfl)); have n2_ := Zm ((by rw [hw]; exact below_set (HB.out) GB42.out : Below w.heap.size w w44)); clear HO_5; clear HO_9; clear HB; have HO_5 := n0_; have HO_9 := n1_; have HB := n2_; clear n0_ n1_ n2_; clear hg hw hp_)))
                  go_roundg kj32
                  case measure => have := HK1.out; have := HJ5.out; have := HK3.out; have := HJ32.out; omega
                  case rel => exact ⟨(y298), (wrap64 (x10_3 + 1)), (wrap64 (x11_3 + 1)), (by first | rfl | (simp; done) | (simp [*]; done)), (by first | rfl | (simp; done) | (simp [*]; done)), H', ⟨by have := HK1.out; have := HJ5.out; have := HK3.out; have := HJ32.out; omega⟩, ⟨by (with_reducible repeat (first | apply Kd.R_alloc | apply Kd.R_drewN | apply Kd.R_drew)); first | exact HO_5.out | exact Kd.R_mono HO_5.out (fun _ _ => trivial)⟩, ⟨by (with_reducible repeat (first | apply Kd.S_alloc | apply Kd.S_drewN | apply Kd.S_drew)); exact Kd.S_mono HO_9.out (fun _ hk => hk.2)⟩, ⟨by repeat (first | (with_reducible first | exact HB.out | apply below_alloc | apply Zd | apply below_drew1) | exact HB.out)⟩⟩
                 ·rw [if_neg c41] at H
                  exact absurd H (by simp)
                ·rw [if_neg c40] at H
                 have c40b0 : ((rd l0 x10_3) == (rd l1 x11_3)) = false := beq_eq_false_iff_ne.mpr c40
                 have c40b1 : ((rd l0 x10_3) != (rd l1 x11_3)) = true := bne_iff_ne.mpr c40
                 obtain ⟨ji45, hji45⟩ : ∃ j_ : Int, (wrap64 (x10_3 + 1)) = j_ := ⟨_, rfl⟩
                 replace H : (if 0 ≤ (ji45) then (if (ji45) < (t293.length : Int) then (if x11_3 < ((rd_L2 t293 (ji45)).length : Int) then (if x10_3 < (t293.length : Int) then (if 0 ≤ (wrap64 (x11_3 + 1)) then (if (wrap64 (x11_3 + 1)) < ((rd_L2 t293 x10_3).length : Int) then (if (rd (rd_L2 t293 (ji45)) x11_3) ≥ (rd (rd_L2 t293 x10_3) (wrap64 (x11_3 + 1))) then (r05_Match.l3 kj32 l0 l1 x5_3 t293 ji45 x11_3) else (r05_Match.l3 kj32 l0 l1 x5_3 t293 x10_3 (wrap64 (x11_3 + 1)))) else (none)) else (none)) else (none)) else (none)) else (none)) else (none)) = some r := by first | (rw [hji45] at H; exact H) | (simp only [hji45] at H ⊢; exact H)
                 have hji45w : (IntKind.i64.wrap (x10_3 + 1)) = ji45 := (i64_w _).trans hji45
                 by_cases c46 : 0 ≤ (ji45)
                 ·rw [if_pos c46] at H
                  have c46b0 : decide (0 ≤ (ji45)) = true := decide_eq_true c46
                  clear c46
                  by_cases c47 : (ji45) < (t293.length : Int)
                  ·rw [if_pos c47] at H
                   have c47b0 : decide ((ji45) < (t293.length : Int)) = true := decide_eq_true c47
                   clear c47
                   by_cases c48 : x11_3 < ((rd_L2 t293 (ji45)).length : Int)
                   ·rw [if_pos c48] at H
                    have c48b0 : decide (x11_3 < ((rd_L2 t293 (ji45)).length : Int)) = true := decide_eq_true c48
                    clear c48
                    by_cases c49 : x10_3 < (t293.length : Int)
                    ·rw [if_pos c49] at H
                     have c49b0 : decide (x10_3 < (t293.length : Int)) = true := decide_eq_true c49
                     clear c49
                     obtain ⟨ji50, hji50⟩ : ∃ j_ : Int, (wrap64 (x11_3 + 1)) = j_ := ⟨_, rfl⟩
                     replace H : (if 0 ≤ (ji50) then (if (ji50) < ((rd_L2 t293 x10_3).length : Int) then (if (rd (rd_L2 t293 (ji45)) x11_3) ≥ (rd (rd_L2 t293 x10_3) (ji50)) then (r05_Match.l3 kj32 l0 l1 x5_3 t293 ji45 x11_3) else (r05_Match.l3 kj32 l0 l1 x5_3 t293 x10_3 ji50)) else (none)) else (none)) = some r := by first | (rw [hji50] at H; exact H) | (simp only [hji50] at H ⊢; exact H)
                     have hji50w : (IntKind.i64.wrap (x11_3 + 1)) = ji50 := (i64_w _).trans hji50
                     by_cases c51 : 0 ≤ (ji50)
                     ·rw [if_pos c51] at H
                      have c51b0 : decide (0 ≤ (ji50)) = true := decide_eq_true c51
                      clear c51
                      by_cases c52 : (ji50) < ((rd_L2 t293 x10_3).length : Int)
                      ·rw [if_pos c52] at H
                       have c52b0 : decide ((ji50) < ((rd_L2 t293 x10_3).length : Int)) = true := decide_eq_true c52
                       clear c52
                       by_cases c53 : (rd (rd_L2 t293 (ji45)) x11_3) ≥ (rd (rd_L2 t293 x10_3) (ji50))
                       ·rw [if_pos c53] at H
                        have c53b0 : decide ((rd (rd_L2 t293 x10_3) (ji50)) ≤ (rd (rd_L2 t293 (ji45)) x11_3)) = true := decide_eq_true c53
                        clear c53
                        have H' := Zm H
                        clear H
                        have p296 : 0 ≤ (x10_3 : Int) := Zo (by first | (with_reducible assumption) | assumption)
                        have q296 : x10_3 < (l0.length : Int) := Zo (by first | (with_reducible assumption) | assumption)
                        obtain ⟨ad296, e296, hx296_0⟩ := Kd.at_int HR0.out x10_3 p296 q296
                        cases e296
                        replace hx296_0 := (HB.out.cell (World.block_lt_of_cell? w _ hx296_0)).trans hx296_0
                        replace p296 := eq_true p296
                        replace q296 := eq_true q296
                        have p297 : 0 ≤ (x11_3 : Int) := Zo (by first | (with_reducible assumption) | assumption)
                        have q297 : x11_3 < (l1.length : Int) := Zo (by first | (with_reducible assumption) | assumption)
                        obtain ⟨ad297, e297, hx297_0⟩ := Kd.at_int HR1.out x11_3 p297 q297
                        cases e297
                        replace hx297_0 := (HB.out.cell (World.block_lt_of_cell? w _ hx297_0)).trans hx297_0
                        replace p297 := eq_true p297
                        replace q297 := eq_true q297
                        obtain ⟨Ao54, co54, eo54⟩ := Kd.S_slice HO_9.out
                        subst eo54
                        have p299 : 0 ≤ ((ji45) : Int) := Zo (by first | (with_reducible assumption) | assumption)
                        have q299 : (ji45) < (t293.length : Int) := Zo (by first | (with_reducible assumption) | assumption)
                        obtain ⟨ad299, A299_0, c299_0, e299, hx299_0, hl299_0, hi299_0⟩ := at_L2 (Kd.S_reads' HO_9.out).2.2 (ji45) p299 q299
                        cases e299
                        obtain ⟨ce299, hce299, hMe299, hcc299⟩ := Kd.S_get HO_9.out [] (ji45) p299 (by first | exact q299 | exact Zo (by first | (with_reducible assumption) | assumption) | (have e_ := (Kd.S_reads' HO_9.out).1; omega))
                        obtain ⟨ve299_0, rfl, ge299_0⟩ := hMe299
                        have hv299_0 := hcc299 0 _ rfl
                        rw [Nat.add_zero, show ((Kd.slice 3 (Kd.int .i64))).sz = 1 from rfl, Nat.mul_one] at hv299_0
                        replace hv299_0 := Option.some.inj (hv299_0.symm.trans hx299_0)
                        rw [hv299_0] at ge299_0
                        have HL299_0 := Zm (show Kd.R (Kd.int .i64) 3 _ _ _ _ (rd_L2 t293 (ji45)) from ge299_0)
                        clear hv299_0 ge299_0
                        clear hcc299 hce299
                        have HR299_0 := Zm hi299_0
                        have HC299_0 := Zm hl299_0
                        clear hi299_0 hl299_0
                        replace p299 := eq_true p299
                        replace q299 := eq_true q299
                        have p300 : 0 ≤ (x11_3 : Int) := Zo (by first | (with_reducible assumption) | assumption)
                        have q300 : x11_3 < ((rd_L2 t293 (ji45)).length : Int) := Zo (by first | (with_reducible assumption) | assumption)
                        obtain ⟨ad300, e300, hx300_0⟩ := Kd.at_int (by repeat (first | (with_reducible exact HR299_0.out) | (with_reducible refine Kd.C_alloc ?_ _) | (with_reducible refine Kd.C_drewN ?_ _) | (with_reducible refine Kd.C_drew ?_) | exact HR299_0.out)) x11_3 p300 q300
                        cases e300
                        replace p300 := eq_true p300
                        replace q300 := eq_true q300
                        have p301 : 0 ≤ (x10_3 : Int) := Zo (by first | (with_reducible assumption) | assumption)
                        have q301 : x10_3 < (t293.length : Int) := Zo (by first | (with_reducible assumption) | assumption)
                        obtain ⟨ad301, A301_0, c301_0, e301, hx301_0, hl301_0, hi301_0⟩ := at_L2 (Kd.S_reads' HO_9.out).2.2 x10_3 p301 q301
                        obtain rfl : ad299 = ad301 := (by injection e301)
                        obtain ⟨ce301, hce301, hMe301, hcc301⟩ := Kd.S_get HO_9.out [] x10_3 p301 (by first | exact q301 | exact Zo (by first | (with_reducible assumption) | assumption) | (have e_ := (Kd.S_reads' HO_9.out).1; omega))
                        obtain ⟨ve301_0, rfl, ge301_0⟩ := hMe301
                        have hv301_0 := hcc301 0 _ rfl
                        rw [Nat.add_zero, show ((Kd.slice 3 (Kd.int .i64))).sz = 1 from rfl, Nat.mul_one] at hv301_0
                        replace hv301_0 := Option.some.inj (hv301_0.symm.trans hx301_0)
                        rw [hv301_0] at ge301_0
                        have HL301_0 := Zm (show Kd.R (Kd.int .i64) 3 _ _ _ _ (rd_L2 t293 x10_3) from ge301_0)
                        clear hv301_0 ge301_0
                        clear hcc301 hce301
                        have HR301_0 := Zm hi301_0
                        have HC301_0 := Zm hl301_0
                        clear hi301_0 hl301_0
                        replace p301 := eq_true p301
                        replace q301 := eq_true q301
                        have p302 : 0 ≤ ((ji50) : Int) := Zo (by first | (with_reducible assumption) | assumption)
                        have q302 : (ji50) < ((rd_L2 t293 x10_3).length : Int) := Zo (by first | (with_reducible assumption) | assumption)
                        obtain ⟨ad302, e302, hx302_0⟩ := Kd.at_int (by repeat (first | (with_reducible exact HR301_0.out) | (with_reducible refine Kd.C_alloc ?_ _) | (with_reducible refine Kd.C_drewN ?_ _) | (with_reducible refine Kd.C_drew ?_) | exact HR301_0.out)) (ji50) p302 q302
                        cases e302
                        replace p302 := eq_true p302
                        replace q302 := eq_true q302
                        go_wp2
                        repeat (go_quiet (fail); try go_wp2)
                        go_roundg kj32
                        case measure => have := HK1.out; have := HJ5.out; have := HK3.out; have := HJ32.out; omega
                        case rel => exact ⟨(x5_3), (ji45), (x11_3), (by first | rfl | (simp; done) | (simp only [← hji45] <;> (first | rfl | simp)) | (simp [*]; done)), (by first | rfl | (simp; done) | (simp [*]; done)), H', ⟨by have := HK1.out; have := HJ5.out; have := HK3.out; have := HJ32.out; omega⟩, ⟨by (with_reducible repeat (first | apply Kd.R_alloc | apply Kd.R_drewN | apply Kd.R_drew)); first | exact HO_5.out | exact Kd.R_mono HO_5.out (fun _ _ => trivial)⟩, ⟨by (with_reducible repeat (first | apply Kd.S_alloc | apply Kd.S_drewN | apply Kd.S_drew)); exact HO_9.out⟩, ⟨by repeat (first | (with_reducible first | exact HB.out | apply below_alloc | apply Zd | apply below_drew1) | exact HB.out)⟩⟩
                       ·rw [if_neg c53] at H
                        have c53b0 : decide ((rd (rd_L2 t293 x10_3) (ji50)) ≤ (rd (rd_L2 t293 (ji45)) x11_3)) = false := decide_eq_false c53
                        clear c53
                        have H' := Zm H
                        clear H
                        have p296 : 0 ≤ (x10_3 : Int) := Zo (by first | (with_reducible assumption) | assumption)
                        have q296 : x10_3 < (l0.length : Int) := Zo (by first | (with_reducible assumption) | assumption)
                        obtain ⟨ad296, e296, hx296_0⟩ := Kd.at_int HR0.out x10_3 p296 q296
                        cases e296
                        replace hx296_0 := (HB.out.cell (World.block_lt_of_cell? w _ hx296_0)).trans hx296_0
                        replace p296 := eq_true p296
                        replace q296 := eq_true q296
                        have p297 : 0 ≤ (x11_3 : Int) := Zo (by first | (with_reducible assumption) | assumption)
                        have q297 : x11_3 < (l1.length : Int) := Zo (by first | (with_reducible assumption) | assumption)
                        obtain ⟨ad297, e297, hx297_0⟩ := Kd.at_int HR1.out x11_3 p297 q297
                        cases e297
                        replace hx297_0 := (HB.out.cell (World.block_lt_of_cell? w _ hx297_0)).trans hx297_0
                        replace p297 := eq_true p297
                        replace q297 := eq_true q297
                        obtain ⟨Ao55, co55, eo55⟩ := Kd.S_slice HO_9.out
                        subst eo55
                        have p299 : 0 ≤ ((ji45) : Int) := Zo (by first | (with_reducible assumption) | assumption)
                        have q299 : (ji45) < (t293.length : Int) := Zo (by first | (with_reducible assumption) | assumption)
                        obtain ⟨ad299, A299_0, c299_0, e299, hx299_0, hl299_0, hi299_0⟩ := at_L2 (Kd.S_reads' HO_9.out).2.2 (ji45) p299 q299
                        cases e299
                        obtain ⟨ce299, hce299, hMe299, hcc299⟩ := Kd.S_get HO_9.out [] (ji45) p299 (by first | exact q299 | exact Zo (by first | (with_reducible assumption) | assumption) | (have e_ := (Kd.S_reads' HO_9.out).1; omega))
                        obtain ⟨ve299_0, rfl, ge299_0⟩ := hMe299
                        have hv299_0 := hcc299 0 _ rfl
                        rw [Nat.add_zero, show ((Kd.slice 3 (Kd.int .i64))).sz = 1 from rfl, Nat.mul_one] at hv299_0
                        replace hv299_0 := Option.some.inj (hv299_0.symm.trans hx299_0)
                        rw [hv299_0] at ge299_0
                        have HL299_0 := Zm (show Kd.R (Kd.int .i64) 3 _ _ _ _ (rd_L2 t293 (ji45)) from ge299_0)
                        clear hv299_0 ge299_0
                        clear hcc299 hce299
                        have HR299_0 := Zm hi299_0
                        have HC299_0 := Zm hl299_0
                        clear hi299_0 hl299_0
                        replace p299 := eq_true p299
                        replace q299 := eq_true q299
                        have p300 : 0 ≤ (x11_3 : Int) := Zo (by first | (with_reducible assumption) | assumption)
                        have q300 : x11_3 < ((rd_L2 t293 (ji45)).length : Int) := Zo (by first | (with_reducible assumption) | assumption)
                        obtain ⟨ad300, e300, hx300_0⟩ := Kd.at_int (by repeat (first | (with_reducible exact HR299_0.out) | (with_reducible refine Kd.C_alloc ?_ _) | (with_reducible refine Kd.C_drewN ?_ _) | (with_reducible refine Kd.C_drew ?_) | exact HR299_0.out)) x11_3 p300 q300
                        cases e300
                        replace p300 := eq_true p300
                        replace q300 := eq_true q300
                        have p301 : 0 ≤ (x10_3 : Int) := Zo (by first | (with_reducible assumption) | assumption)
                        have q301 : x10_3 < (t293.length : Int) := Zo (by first | (with_reducible assumption) | assumption)
                        obtain ⟨ad301, A301_0, c301_0, e301, hx301_0, hl301_0, hi301_0⟩ := at_L2 (Kd.S_reads' HO_9.out).2.2 x10_3 p301 q301
                        obtain rfl : ad299 = ad301 := (by injection e301)
                        obtain ⟨ce301, hce301, hMe301, hcc301⟩ := Kd.S_get HO_9.out [] x10_3 p301 (by first | exact q301 | exact Zo (by first | (with_reducible assumption) | assumption) | (have e_ := (Kd.S_reads' HO_9.out).1; omega))
                        obtain ⟨ve301_0, rfl, ge301_0⟩ := hMe301
                        have hv301_0 := hcc301 0 _ rfl
                        rw [Nat.add_zero, show ((Kd.slice 3 (Kd.int .i64))).sz = 1 from rfl, Nat.mul_one] at hv301_0
                        replace hv301_0 := Option.some.inj (hv301_0.symm.trans hx301_0)
                        rw [hv301_0] at ge301_0
                        have HL301_0 := Zm (show Kd.R (Kd.int .i64) 3 _ _ _ _ (rd_L2 t293 x10_3) from ge301_0)
                        clear hv301_0 ge301_0
                        clear hcc301 hce301
                        have HR301_0 := Zm hi301_0
                        have HC301_0 := Zm hl301_0
                        clear hi301_0 hl301_0
                        replace p301 := eq_true p301
                        replace q301 := eq_true q301
                        have p302 : 0 ≤ ((ji50) : Int) := Zo (by first | (with_reducible assumption) | assumption)
                        have q302 : (ji50) < ((rd_L2 t293 x10_3).length : Int) := Zo (by first | (with_reducible assumption) | assumption)
                        obtain ⟨ad302, e302, hx302_0⟩ := Kd.at_int (by repeat (first | (with_reducible exact HR301_0.out) | (with_reducible refine Kd.C_alloc ?_ _) | (with_reducible refine Kd.C_drewN ?_ _) | (with_reducible refine Kd.C_drew ?_) | exact HR301_0.out)) (ji50) p302 q302
                        cases e302
                        replace p302 := eq_true p302
                        replace q302 := eq_true q302
                        go_wp2
                        repeat (go_quiet (fail); try go_wp2)
                        go_roundg kj32
                        case measure => have := HK1.out; have := HJ5.out; have := HK3.out; have := HJ32.out; omega
                        case rel => exact ⟨(x5_3), (x10_3), (ji50), (by first | rfl | (simp; done) | (simp [*]; done)), (by first | rfl | (simp; done) | (simp only [← hji50] <;> (first | rfl | simp)) | (simp [*]; done)), H', ⟨by have := HK1.out; have := HJ5.out; have := HK3.out; have := HJ32.out; omega⟩, ⟨by (with_reducible repeat (first | apply Kd.R_alloc | apply Kd.R_drewN | apply Kd.R_drew)); first | exact HO_5.out | exact Kd.R_mono HO_5.out (fun _ _ => trivial)⟩, ⟨by (with_reducible repeat (first | apply Kd.S_alloc | apply Kd.S_drewN | apply Kd.S_drew)); exact HO_9.out⟩, ⟨by repeat (first | (with_reducible first | exact HB.out | apply below_alloc | apply Zd | apply below_drew1) | exact HB.out)⟩⟩
                      ·rw [if_neg c52] at H
                       exact absurd H (by simp)
                     ·rw [if_neg c51] at H
                      exact absurd H (by simp)
                    ·rw [if_neg c49] at H
                     exact absurd H (by simp)
                   ·rw [if_neg c48] at H
                    exact absurd H (by simp)
                  ·rw [if_neg c47] at H
                   exact absurd H (by simp)
                 ·rw [if_neg c46] at H
                  exact absurd H (by simp)
               ·rw [if_neg c39] at H
                exact absurd H (by simp)
              ·rw [if_neg c38] at H
               exact absurd H (by simp)
             ·rw [if_neg c37] at H
              exact absurd H (by simp)
            ·rw [if_neg c36] at H
             exact absurd H (by simp)
           ·replace c35 := Bool.eq_false_iff.mpr c35
            subst c35
            have H1 : (some x5_3) = some r := by rw [if_neg (show ¬ (false = true) by decide)] at H; exact H
            clear H
            have H := H1
            clear H1
            obtain rfl := Option.some.inj H
            go_wp2
            repeat (go_quiet (fail); try go_wp2)
            go_ret
            exact ⟨_, by first | rfl | (simp [errW_none, errW_some] <;> rfl) | (simp [*, errW_none, errW_some] <;> rfl), by (with_reducible repeat (first | apply Kd.R_alloc | apply Kd.R_drewN | apply Kd.R_drew)); exact HO_5.out, by repeat (first | (with_reducible first | exact HB.out | apply below_alloc | apply Zd | apply below_drew1) | exact HB.out)⟩
end Go.Proofs.Ytphghffdaceaoaa.PHunk
