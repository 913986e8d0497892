/- Laid by a program of this session out of the seat's translation. -/
import Derived.Test.YtphghffdaceaoaaPHunkx0
namespace Go.Proofs.Ytphghffdaceaoaa.PHunk
open Go.RowKit Go.Proofs.YtphghffdaceaoaaW.PrintWords Go.Proofs.YtphghffdaceaoaaW.PrintLast Go.Proofs.YtphghffdaceaoaaW.PrintMore
attribute [local go_sem] max2_int min2_int max_two min_two max_three min_three max_four min_four   -- for this text's walks alone
set_option linter.unusedVariables false
set_option linter.unusedSimpArgs false
/-! ### r05_Numbers: function 22 -/
mutual
def r05_Numbers.l0 : Nat → List (List ByteArray) → List ByteArray → List (List Int) → Int → Option ((List (List Int)))
 | 0, _, _, _, _ => none
 | k + 1, x0, x3, x4, x5 => if x5 < (x0.length : Int) then (r05_Numbers.l1 k x0 x3 x4 x5 ([] : List Int) 0) else (some x4)
def r05_Numbers.l1 : Nat → List (List ByteArray) → List ByteArray → List (List Int) → Int → List Int → Int → Option ((List (List Int)))
 | 0, _, _, _, _, _, _ => none
 | k + 1, x0, x3, x4, x5, x6, x7 => if 0 ≤ x5 then (if x5 < (x0.length : Int) then (if x7 < ((rd_L5 x0 x5).length : Int) then (r05_Numbers.l2 k x0 x3 x4 x5 x6 x7 0) else (if x4.length < 5864062014805 then (r05_Numbers.l0 k x0 x3 (x4 ++ [x6]) (wrap64 (x5 + 1))) else (none))) else (none)) else (none)
def r05_Numbers.l2 : Nat → List (List ByteArray) → List ByteArray → List (List Int) → Int → List Int → Int → Int → Option ((List (List Int)))
 | 0, _, _, _, _, _, _, _ => none
 | k + 1, x0, x3, x4, x5, x6, x7, x8 => if x8 < (x3.length : Int) then (if 0 ≤ x8 then (if 0 ≤ x5 then (if x5 < (x0.length : Int) then (if 0 ≤ x7 then (if x7 < ((rd_L5 x0 x5).length : Int) then (if (rdOf ByteArray.empty x3 x8).toList = (rdOf ByteArray.empty (rd_L5 x0 x5) x7).toList then (if x8 = (x3.length : Int) then (if x3.length < 8796093022208 then (if x6.length < 17592186044416 then (r05_Numbers.l1 k x0 (x3 ++ [rdOf ByteArray.empty (rd_L5 x0 x5) x7]) x4 x5 (x6 ++ [x8]) (wrap64 (x7 + 1))) else (none)) else (none)) else (if x6.length < 17592186044416 then (r05_Numbers.l1 k x0 x3 x4 x5 (x6 ++ [x8]) (wrap64 (x7 + 1))) else (none))) else (r05_Numbers.l2 k x0 x3 x4 x5 x6 x7 (wrap64 (x8 + 1)))) else (none)) else (none)) else (none)) else (none)) else (none)) else (if x8 = (x3.length : Int) then (if 0 ≤ x5 then (if x5 < (x0.length : Int) then (if 0 ≤ x7 then (if x7 < ((rd_L5 x0 x5).length : Int) then (if x3.length < 8796093022208 then (if x6.length < 17592186044416 then (r05_Numbers.l1 k x0 (x3 ++ [rdOf ByteArray.empty (rd_L5 x0 x5) x7]) x4 x5 (x6 ++ [x8]) (wrap64 (x7 + 1))) else (none)) else (none)) else (none)) else (none)) else (none)) else (none)) else (if x6.length < 17592186044416 then (r05_Numbers.l1 k x0 x3 x4 x5 (x6 ++ [x8]) (wrap64 (x7 + 1))) else (none)))
end
def r05_Numbers.f (k : Nat) (l0 : List (List ByteArray)) : Option ((List (List Int))) := r05_Numbers.l0 k l0 ([] : List ByteArray) ([] : List (List Int)) 0
set_option maxHeartbeats 8000000 in
set_option maxRecDepth 100000 in
theorem r05_Numbers.calls (k : Nat) (A0 : Option Addr) (c0 : Nat) (l0 : List (List ByteArray)) (r : List (List Int)) (w : World) (hr0 : Kd.C (Kd.slice 9 Kd.string) w A0 l0.length l0) (hc0 : l0.length ≤ c0) (h : r05_Numbers.f k l0 = some r) :
  Calls Try.prog 22 #[.slice A0 l0.length c0] w fun e w' => ∃ v0_ : Value, e = .returned (v0_) ∧ Kd.S (Kd.slice 3 (Kd.int .i64)) 22 w' w.heap.size (fun _ => True) v0_ r ∧ Below w.heap.size w w' := by
 have HR0 := Zm hr0
 have HC0 := Zm hc0
 clear hr0 hc0
 have HB := Zm (Below.refl w.heap.size w)
 have H : (r05_Numbers.l0 k l0 ([] : List ByteArray) ([] : List (List Int)) 0) = some r := h
 clear h
 have H' := Zm H
 clear H
 go_enter Try.func22, Try.ntmps22
 go_wp2
 repeat (go_quiet (fail); try go_wp2)
 go_loopg [3, 4, 5] k (fun kq v3 v4 v5 w' => ∃ (x3_1 : List ByteArray) (x4_1 : List (List Int)) (x5_1 : Int), v5 = .int .i64 x5_1 ∧ Aside0 (r05_Numbers.l0 kq l0 x3_1 x4_1 x5_1 = some r) ∧ Aside0 (kq ≤ k) ∧ Aside0 (Kd.R Kd.string 9 w' w.heap.size (fun _ => True) v3 x3_1) ∧ Aside0 (Kd.S (Kd.slice 3 (Kd.int .i64)) 22 w' w.heap.size (fun _ => True) v4 x4_1) ∧ Aside0 (Below w.heap.size w w'))
 case atStart => exact ⟨(([] : List ByteArray)), (([] : List (List Int))), (0), (by first | rfl | (simp; done) | (simp [*]; done)), H', ⟨Nat.le_refl _⟩, ⟨by first | exact Kd.R_nil _ _ _ _ _ | exact Kd.N_nil _ _ _ _ _ | exact Kd.V_nil _ _ _ _ _ | exact Kd.Q_nil _ _ _ _ _ | exact Kd.S_nil _ _ _ _ _⟩, ⟨by first | exact Kd.S_nil _ _ _ _ _ | exact Kd.N_nil _ _ _ _ _ | exact Kd.V_nil _ _ _ _ _ | exact Kd.Q_nil _ _ _ _ _ | exact Kd.R_nil _ _ _ _ _⟩, ⟨by repeat (first | (with_reducible first | exact HB.out | apply below_alloc | apply Zd | apply below_drew1) | exact HB.out)⟩⟩
 case round =>
  clear H'
  obtain ⟨x3_1, x4_1, x5_1, rfl, HA, HK1, HO_3, HO_4, HB⟩ := hrel
  cases gk with
  | zero => exact absurd HA.out (by simp [r05_Numbers.l0])
  | succ k1 =>
   have H := HA.out
   clear HA
   simp only [r05_Numbers.l0] at H
   by_cases c2 : x5_1 < (l0.length : Int)
   ·rw [if_pos c2] at H
    have c2b0 : decide (x5_1 < (l0.length : Int)) = true := decide_eq_true c2
    clear c2
    have H' := Zm H
    clear H
    go_wp2
    repeat (go_quiet (fail); try go_wp2)
    go_loopg [3, 6, 7] k1 (fun kq v3 v6 v7 w' => ∃ (x3_2 : List ByteArray) (x6_2 : List Int) (x7_2 : Int), v7 = .int .i64 x7_2 ∧ Aside0 (r05_Numbers.l1 kq l0 x3_2 x4_1 x5_1 x6_2 x7_2 = some r) ∧ Aside0 (kq ≤ k1) ∧ Aside0 (Kd.R Kd.string 9 w' w.heap.size (fun _ => True) v3 x3_2) ∧ Aside0 (Kd.S (Kd.slice 3 (Kd.int .i64)) 22 w' w.heap.size (fun k_ => some k_ ≠ (v6 : Value).ownBlock) u4 x4_1) ∧ Aside0 (Kd.R (Kd.int .i64) 3 w' w.heap.size (fun _ => True) v6 x6_2) ∧ Aside0 (Below w.heap.size w w'))
    case atStart => exact ⟨(x3_1), (([] : List Int)), (0), (by first | rfl | (simp; done) | (simp [*]; done)), H', ⟨Nat.le_refl _⟩, ⟨by (with_reducible repeat (first | apply Kd.R_alloc | apply Kd.R_drewN | apply Kd.R_drew)); first | exact HO_3.out | exact Kd.R_mono HO_3.out (fun _ _ => trivial)⟩, ⟨by (with_reducible repeat (first | apply Kd.S_alloc | apply Kd.S_drewN | apply Kd.S_drew)); exact Kd.S_mono HO_4.out (fun _ hk => (by simp [Value.ownBlock]))⟩, ⟨by first | exact Kd.R_nil _ _ _ _ _ | exact Kd.N_nil _ _ _ _ _ | exact Kd.V_nil _ _ _ _ _ | exact Kd.Q_nil _ _ _ _ _ | exact Kd.S_nil _ _ _ _ _⟩, ⟨by repeat (first | (with_reducible first | exact HB.out | apply below_alloc | apply Zd | apply below_drew1) | exact HB.out)⟩⟩
    case round =>
     clear H'
     try clear c2
     try clear c2b0
     try clear p2
     obtain ⟨x3_2, x6_2, x7_2, rfl, HA, HK2, HO_3, HO_4, HO_6, HB⟩ := hrel
     cases gk with
     | zero => exact absurd HA.out (by simp [r05_Numbers.l1])
     | succ k2 =>
      have H := HA.out
      clear HA
      simp only [r05_Numbers.l1] at H
      by_cases c3 : 0 ≤ x5_1
      ·rw [if_pos c3] at H
       have c3b0 : decide (0 ≤ x5_1) = true := decide_eq_true c3
       clear c3
       by_cases c4 : x5_1 < (l0.length : Int)
       ·rw [if_pos c4] at H
        have c4b0 : decide (x5_1 < (l0.length : Int)) = true := decide_eq_true c4
        clear c4
        by_cases c5 : x7_2 < ((rd_L5 l0 x5_1).length : Int)
        ·rw [if_pos c5] at H
         have c5b0 : decide (x7_2 < ((rd_L5 l0 x5_1).length : Int)) = true := decide_eq_true c5
         clear c5
         have H' := Zm H
         clear H
         have p232 : 0 ≤ (x5_1 : Int) := Zo (by first | (with_reducible assumption) | assumption)
         have q232 : x5_1 < (l0.length : Int) := Zo (by first | (with_reducible assumption) | assumption)
         obtain ⟨ad232, A232_0, c232_0, e232, hx232_0, hl232_0, hi232_0⟩ := at_L5 HR0.out x5_1 p232 q232
         cases e232
         replace hx232_0 := (HB.out.cell (World.block_lt_of_cell? w _ hx232_0)).trans hx232_0
         have HR232_0 := Zm hi232_0
         have HC232_0 := Zm hl232_0
         clear hi232_0 hl232_0
         replace p232 := eq_true p232
         replace q232 := eq_true q232
         go_wp2
         repeat (go_quiet (fail); try go_wp2)
         go_loopg [8] k2 (fun kq v8 w' => ∃ (x8_3 : Int), v8 = .int .i64 x8_3 ∧ Aside0 (r05_Numbers.l2 kq l0 x3_2 x4_1 x5_1 x6_2 x7_2 x8_3 = some r) ∧ Aside0 (kq ≤ k2) ∧ Aside0 (Kd.R Kd.string 9 w' w.heap.size (fun _ => True) u3 x3_2) ∧ Aside0 (Kd.S (Kd.slice 3 (Kd.int .i64)) 22 w' w.heap.size (fun k_ => some k_ ≠ (u6 : Value).ownBlock) u4 x4_1) ∧ Aside0 (Kd.R (Kd.int .i64) 3 w' w.heap.size (fun _ => True) u6 x6_2) ∧ Aside0 (Below w.heap.size w w'))
         case atStart => exact ⟨(0), (by first | rfl | (simp; done) | (simp [*]; done)), H', ⟨Nat.le_refl _⟩, ⟨by (with_reducible repeat (first | apply Kd.R_alloc | apply Kd.R_drewN | apply Kd.R_drew)); first | exact HO_3.out | exact Kd.R_mono HO_3.out (fun _ _ => trivial)⟩, ⟨by (with_reducible repeat (first | apply Kd.S_alloc | apply Kd.S_drewN | apply Kd.S_drew)); exact HO_4.out⟩, ⟨by (with_reducible repeat (first | apply Kd.R_alloc | apply Kd.R_drewN | apply Kd.R_drew)); first | exact HO_6.out | exact Kd.R_mono HO_6.out (fun _ _ => trivial)⟩, ⟨by repeat (first | (with_reducible first | exact HB.out | apply below_alloc | apply Zd | apply below_drew1) | exact HB.out)⟩⟩
         case round =>
          clear H'
          try clear c2
          try clear c2b0
          try clear p2
          try clear q2
          try clear hx2
          try clear c3
          try clear c3b0
          try clear c4
          try clear c4b0
          try clear c5
          try clear c5b0
          try clear hx232_0
          try clear p2
          try clear p232
          try clear q232
          obtain ⟨x8_3, rfl, HA, HK3, HO_3, HO_4, HO_6, HB⟩ := hrel
          cases gk with
          | zero => exact absurd HA.out (by simp [r05_Numbers.l2])
          | succ k3 =>
           have H := HA.out
           clear HA
           simp only [r05_Numbers.l2] at H
           by_cases c6 : x8_3 < (x3_2.length : Int)
           ·rw [if_pos c6] at H
            have c6b0 : decide (x8_3 < (x3_2.length : Int)) = true := decide_eq_true c6
            clear c6
            by_cases c7 : 0 ≤ x8_3
            ·rw [if_pos c7] at H
             have c7b0 : decide (0 ≤ x8_3) = true := decide_eq_true c7
             clear c7
             by_cases c8 : 0 ≤ x5_1
             ·rw [if_pos c8] at H
              have c8b0 : decide (0 ≤ x5_1) = true := decide_eq_true c8
              clear c8
              by_cases c9 : x5_1 < (l0.length : Int)
              ·rw [if_pos c9] at H
               have c9b0 : decide (x5_1 < (l0.length : Int)) = true := decide_eq_true c9
               clear c9
               by_cases c10 : 0 ≤ x7_2
               ·rw [if_pos c10] at H
                have c10b0 : decide (0 ≤ x7_2) = true := decide_eq_true c10
                clear c10
                by_cases c11 : x7_2 < ((rd_L5 l0 x5_1).length : Int)
                ·rw [if_pos c11] at H
                 have c11b0 : decide (x7_2 < ((rd_L5 l0 x5_1).length : Int)) = true := decide_eq_true c11
                 clear c11
                 by_cases c12 : (rdOf ByteArray.empty x3_2 x8_3).toList = (rdOf ByteArray.empty (rd_L5 l0 x5_1) x7_2).toList
                 ·rw [if_pos c12] at H
                  have c12b0 : ((rdOf ByteArray.empty x3_2 x8_3).toList == (rdOf ByteArray.empty (rd_L5 l0 x5_1) x7_2).toList) = true := beq_iff_eq.mpr c12
                  have c12b1 : ((rdOf ByteArray.empty x3_2 x8_3).toList != (rdOf ByteArray.empty (rd_L5 l0 x5_1) x7_2).toList) = false := bne_eq_false_iff_eq.mpr c12
                  clear c12
                  by_cases c13 : x8_3 = (x3_2.length : Int)
                  ·rw [if_pos c13] at H
                   have c13b0 : (x8_3 == (x3_2.length : Int)) = true := beq_iff_eq.mpr c13
                   have c13b1 : (x8_3 != (x3_2.length : Int)) = false := bne_eq_false_iff_eq.mpr c13
                   clear c13
                   by_cases c14 : x3_2.length < 8796093022208
                   ·rw [if_pos c14] at H
                    have LMc14 := Zm c14
                    clear c14
                    obtain ⟨y241, hy241⟩ : ∃ y_ : List ByteArray, y_ = (x3_2 ++ [rdOf ByteArray.empty (rd_L5 l0 x5_1) x7_2]) := ⟨_, rfl⟩
                    replace H : (if x6_2.length < 17592186044416 then (r05_Numbers.l1 k3 l0 y241 x4_1 x5_1 (x6_2 ++ [x8_3]) (wrap64 (x7_2 + 1))) else (none)) = some r := by first | (rw [hy241]; with_reducible exact H) | (have H2_ := (Option.bind_some _ _).symm.trans H; rw [hy241]; with_reducible exact H2_) | (have H2_ := (Option.bind_some _ _).symm.trans H; with_reducible exact H2_) | with_reducible exact H | (rw [hy241]; exact H) | exact H
                    have Ny241 := Zm hy241
                    clear hy241
                    by_cases c15 : x6_2.length < 17592186044416
                    ·rw [if_pos c15] at H
                     have LMc15 := Zm c15
                     clear c15
                     obtain ⟨y244, hy244⟩ : ∃ y_ : List Int, y_ = (x6_2 ++ [x8_3]) := ⟨_, rfl⟩
                     replace H : (r05_Numbers.l1 k3 l0 y241 x4_1 x5_1 y244 (wrap64 (x7_2 + 1))) = some r := by first | (rw [hy244]; with_reducible exact H) | (have H2_ := (Option.bind_some _ _).symm.trans H; rw [hy244]; with_reducible exact H2_) | (have H2_ := (Option.bind_some _ _).symm.trans H; with_reducible exact H2_) | with_reducible exact H | (rw [hy244]; exact H) | exact H
                     have Ny244 := Zm hy244
                     clear hy244
                     have H' := Zm H
                     clear H
                     obtain ⟨Ao16, co16, eo16⟩ := Kd.R_slice HO_3.out
                     subst eo16
                     have p236 : 0 ≤ (x8_3 : Int) := Zo (by first | (with_reducible assumption) | assumption)
                     have q236 : x8_3 < (x3_2.length : Int) := Zo (by first | (with_reducible assumption) | assumption)
                     obtain ⟨ad236, e236, hx236_0⟩ := Kd.at_string (Kd.R_reads' HO_3.out).2.2 x8_3 p236 q236
                     cases e236
                     replace p236 := eq_true p236
                     replace q236 := eq_true q236
                     have p237 : 0 ≤ (x5_1 : Int) := Zo (by first | (with_reducible assumption) | assumption)
                     have q237 : x5_1 < (l0.length : Int) := Zo (by first | (with_reducible assumption) | assumption)
                     obtain ⟨ad237, A237_0, c237_0, e237, hx237_0, hl237_0, hi237_0⟩ := at_L5 HR0.out x5_1 p237 q237
                     obtain rfl : ad232 = ad237 := (by injection e237)
                     replace hx237_0 := (HB.out.cell (World.block_lt_of_cell? w _ hx237_0)).trans hx237_0
                     have HR237_0 := Zm hi237_0
                     have HC237_0 := Zm hl237_0
                     clear hi237_0 hl237_0
                     replace p237 := eq_true p237
                     replace q237 := eq_true q237
                     have p238 : 0 ≤ (x7_2 : Int) := Zo (by first | (with_reducible assumption) | assumption)
                     have q238 : x7_2 < ((rd_L5 l0 x5_1).length : Int) := Zo (by first | (with_reducible assumption) | assumption)
                     obtain ⟨ad238, e238, hx238_0⟩ := Kd.at_string HR237_0.out x7_2 p238 q238
                     cases e238
                     replace hx238_0 := (HB.out.cell (World.block_lt_of_cell? w _ hx238_0)).trans hx238_0
                     replace p238 := eq_true p238
                     replace q238 := eq_true q238
                     have p239 : 0 ≤ (x5_1 : Int) := Zo (by first | (with_reducible assumption) | assumption)
                     have q239 : x5_1 < (l0.length : Int) := Zo (by first | (with_reducible assumption) | assumption)
                     obtain ⟨ad239, A239_0, c239_0, e239, hx239_0, hl239_0, hi239_0⟩ := at_L5 HR0.out x5_1 p239 q239
                     obtain rfl : ad232 = ad239 := (by injection e239)
                     replace hx239_0 := (HB.out.cell (World.block_lt_of_cell? w _ hx239_0)).trans hx239_0
                     have HR239_0 := Zm hi239_0
                     have HC239_0 := Zm hl239_0
                     clear hi239_0 hl239_0
                     replace p239 := eq_true p239
                     replace q239 := eq_true q239
                     have ea_ := Option.some.inj (hx237_0.symm.trans hx239_0)
                     injection ea_ with ea_ en_ ec_
                     subst ea_
                     subst ec_
                     clear en_
                     have p240 : 0 ≤ (x7_2 : Int) := Zo (by first | (with_reducible assumption) | assumption)
                     have q240 : x7_2 < ((rd_L5 l0 x5_1).length : Int) := Zo (by first | (with_reducible assumption) | assumption)
                     obtain ⟨ad240, e240, hx240_0⟩ := Kd.at_string HR239_0.out x7_2 p240 q240
                     cases e240
                     replace hx240_0 := (HB.out.cell (World.block_lt_of_cell? w _ hx240_0)).trans hx240_0
                     replace p240 := eq_true p240
                     replace q240 := eq_true q240
                     go_wp2_with (first | ((with_reducible refine gate_builtin (b := .append) (xs := #[.tmp 48, .tmp 56]) rfl ?_); at_builtin; refine Kd.R_append Kd.string (w0 := w) w.heap.size rfl (.tmp 48) (.tmp 56) 25 9 (.string ⟨#[]⟩) 16 rfl Try.underlying25 info9 rfl (by decide) (by omega) (.slice (some ad236) x3_2.length co16) x3_2 (rdOf ByteArray.empty (rd_L5 l0 x5_1) x7_2) [.string (rdOf ByteArray.empty (rd_L5 l0 x5_1) x7_2)] (fun _ => True) (fun _ => False) rfl rfl ?aP (fun _ hk => hk.elim) ?aF ?aO ?aB ?aS ?aL ?_; (case aP => exact rfl); (case aB => exact (by repeat (first | (with_reducible first | exact HB.out | apply below_alloc | apply Zd | apply below_drew1) | exact HB.out))); (case aF => exact (fun _ _ => trivial)); (case aO => exact (by (with_reducible repeat (first | apply Kd.R_alloc | apply Kd.R_drewN | apply Kd.R_drew)); exact HO_3.out)); (case aS => exact (below_size (by repeat (first | (with_reducible first | exact HB.out | apply below_alloc | apply Zd | apply below_drew1) | exact HB.out)))); (case aL => have := LMc14.out; omega); intro v242 w17 ho hb hg hat; rw [← Ny241.out] at ho; have n0_ := Zm (Kd.S_over' (by (with_reducible repeat (first | apply Kd.S_alloc | apply Kd.S_drewN | apply Kd.S_drew)); exact HO_4.out) (Kd.R_typed (by (with_reducible repeat (first | apply Kd.R_alloc | apply Kd.R_drewN | apply Kd.R_drew)); exact HO_3.out)) (by decide) hg); have n1_ := Zm (Kd.R_over' (by (with_reducible repeat (first | apply Kd.R_alloc | apply Kd.R_drewN | apply Kd.R_drew)); exact HO_6.out) (Kd.R_typed (by (with_reducible repeat (first | apply Kd.R_alloc | apply Kd.R_drewN | apply Kd.R_drew)); exact HO_3.out)) (by decide) hg); have n2_ := Zm (hb); have n3_ := Zm (ho); clear HO_4; clear HO_6; clear HB; clear HO_3; have HO_4 := n0_; have HO_6 := n1_; have HB := n2_; have HO243 := n3_; clear n0_ n1_ n2_ n3_; clear ho hb hg hat) | ((with_reducible refine gate_builtin (b := .append) (xs := #[.tmp 58, .tmp 60]) rfl ?_); at_builtin; refine Kd.R_append (Kd.int .i64) (w0 := w) w.heap.size rfl (.tmp 58) (.tmp 60) 22 3 (.int .i64 0) 8 rfl Try.underlying22 info3 rfl (by decide) (by omega) u6 x6_2 x8_3 [.int .i64 x8_3] (fun _ => True) (fun _ => False) rfl rfl ?aP (fun _ hk => hk.elim) ?aF ?aO ?aB ?aS ?aL ?_; (case aP => exact rfl); (case aB => exact (by repeat (first | (with_reducible first | exact HB.out | apply below_alloc | apply Zd | apply below_drew1) | exact HB.out))); (case aF => exact (fun _ _ => trivial)); (case aO => exact (by (with_reducible repeat (first | apply Kd.R_alloc | apply Kd.R_drewN | apply Kd.R_drew)); exact HO_6.out)); (case aS => exact (below_size (by repeat (first | (with_reducible first | exact HB.out | apply below_alloc | apply Zd | apply below_drew1) | exact HB.out)))); (case aL => have := LMc15.out; omega); intro v245 w18 ho hb hg hat; rw [← Ny244.out] at ho; have n0_ := Zm (Kd.S_after (ok := (fun _ => True)) (by (with_reducible repeat (first | apply Kd.S_alloc | apply Kd.S_drewN | apply Kd.S_drew)); exact Kd.S_mono HO_4.out (fun _ hk => ⟨trivial, hk⟩)) hg hat); have n1_ := Zm (Kd.R_over' (by (with_reducible repeat (first | apply Kd.R_alloc | apply Kd.R_drewN | apply Kd.R_drew)); exact HO243.out) (Kd.R_typed (by (with_reducible repeat (first | apply Kd.R_alloc | apply Kd.R_drewN | apply Kd.R_drew)); exact HO_6.out)) (by decide) hg); have n2_ := Zm (hb); have n3_ := Zm (ho); clear HO_4; clear HO243; clear HB; clear HO_6; have HO_4 := n0_; have HO243 := n1_; have HB := n2_; have HO246 := n3_; clear n0_ n1_ n2_ n3_; clear ho hb hg hat))
                     repeat (go_quiet (first | ((with_reducible refine gate_builtin (b := .append) (xs := #[.tmp 48, .tmp 56]) rfl ?_); at_builtin; refine Kd.R_append Kd.string (w0 := w) w.heap.size rfl (.tmp 48) (.tmp 56) 25 9 (.string ⟨#[]⟩) 16 rfl Try.underlying25 info9 rfl (by decide) (by omega) (.slice (some ad236) x3_2.length co16) x3_2 (rdOf ByteArray.empty (rd_L5 l0 x5_1) x7_2) [.string (rdOf ByteArray.empty (rd_L5 l0 x5_1) x7_2)] (fun _ => True) (fun _ => False) rfl rfl ?aP (fun _ hk => hk.elim) ?aF ?aO ?aB ?aS ?aL ?_; (case aP => exact rfl); (case aB => exact (by repeat (first | (with_reducible first | exact HB.out | apply below_alloc | apply Zd | apply below_drew1) | exact HB.out))); (case aF => exact (fun _ _ => trivial)); (case aO => exact (by (with_reducible repeat (first | apply Kd.R_alloc | apply Kd.R_drewN | apply Kd.R_drew)); exact HO_3.out)); (case aS => exact (below_size (by repeat (first | (with_reducible first | exact HB.out | apply below_alloc | apply Zd | apply below_drew1) | exact HB.out)))); (case aL => have := LMc14.out; omega); intro v242 w17 ho hb hg hat; rw [← Ny241.out] at ho; have n0_ := Zm (Kd.S_over' (by (with_reducible repeat (first | apply Kd.S_alloc | apply Kd.S_drewN | apply Kd.S_drew)); exact HO_4.out) (Kd.R_typed (by (with_reducible repeat (first | apply Kd.R_alloc | apply Kd.R_drewN | apply Kd.R_drew)); exact HO_3.out)) (by decide) hg); have n1_ := Zm (Kd.R_over' (by (with_reducible repeat (first | apply Kd.R_alloc | apply Kd.R_drewN | apply Kd.R_drew)); exact HO_6.out) (Kd.R_typed (by (with_reducible repeat (first | apply Kd.R_alloc | apply Kd.R_drewN | apply Kd.R_drew)); exact HO_3.out)) (by decide) hg); have n2_ := Zm (hb); have n3_ := Zm (ho); clear HO_4; clear HO_6; clear HB; clear HO_3; have HO_4 := n0_; have HO_6 := n1_; have HB := n2_; have HO243 := n3_; clear n0_ n1_ n2_ n3_; clear ho hb hg hat) | ((with_reducible refine gate_builtin (b := .append) (xs := #[.tmp 58, .tmp 60]) rfl ?_); at_builtin; refine Kd.R_append (Kd.int .i64) (w0 := w) w.heap.size rfl (.tmp 58) (.tmp 60) 22 3 (.int .i64 0) 8 rfl Try.underlying22 info3 rfl (by decide) (by omega) u6 x6_2 x8_3 [.int .i64 x8_3] (fun _ => True) (fun _ => False) rfl rfl ?aP (fun _ hk => hk.elim) ?aF ?aO ?aB ?aS ?aL ?_; (case aP => exact rfl); (case aB => exact (by repeat (first | (with_reducible first | exact HB.out | apply below_alloc | apply Zd | apply below_drew1) | exact HB.out))); (case aF => exact (fun _ _ => trivial)); (case aO => exact (by (with_reducible repeat (first | apply Kd.R_alloc | apply Kd.R_drewN | apply Kd.R_drew)); exact HO_6.out)); (case aS => exact (below_size (by repeat (first | (with_reducible first | exact HB.out | apply below_alloc | apply Zd | apply below_drew1) | exact HB.out)))); (case aL => have := LMc15.out; omega); intro v245 w18 ho hb hg hat; rw [← Ny244.out] at ho; have n0_ := Zm (Kd.S_after (ok := (fun _ => True)) (by (with_reducible repeat (first | apply Kd.S_alloc | apply Kd.S_drewN | apply Kd.S_drew)); exact Kd.S_mono HO_4.out (fun _ hk => ⟨trivial, hk⟩)) hg hat); have n1_ := Zm (Kd.R_over' (by (with_reducible repeat (first | apply Kd.R_alloc | apply Kd.R_drewN | apply Kd.R_drew)); exact HO243.out) (Kd.R_typed (by (with_reducible repeat (first | apply Kd.R_alloc | apply Kd.R_drewN | apply Kd.R_drew)); exact HO_6.out)) (by decide) hg); have n2_ := Zm (hb); have n3_ := Zm (ho); clear HO_4; clear HO243; clear HB; clear HO_6; have HO_4 := n0_; have HO243 := n1_; have HB := n2_; have HO246 := n3_; clear n0_ n1_ n2_ n3_; clear ho hb hg hat)); try go_wp2_with (first | ((with_reducible refine gate_builtin (b := .append) (xs := #[.tmp 48, .tmp 56]) rfl ?_); at_builtin; refine Kd.R_append Kd.string (w0 := w) w.heap.size rfl (.tmp 48) (.tmp 56) 25 9 (.string ⟨#[]⟩) 16 rfl Try.underlying25 info9 rfl (by decide) (by omega) (.slice (some ad236) x3_2.length co16) x3_2 (rdOf ByteArray.empty (rd_L5 l0 x5_1) x7_2) [.string (rdOf ByteArray.empty (rd_L5 l0 x5_1) x7_2)] (fun _ => True) (fun _ => False) rfl rfl ?aP (fun _ hk => hk.elim) ?aF ?aO ?aB ?aS ?aL ?_; (case aP => exact rfl); (case aB => exact (by repeat (first | (with_reducible first | exact HB.out | apply below_alloc | apply Zd | apply below_drew1) | exact HB.out))); (case aF => exact (fun _ _ => trivial)); (case aO => exact (by (with_reducible repeat (first | apply Kd.R_alloc | apply Kd.R_drewN | apply Kd.R_drew)); exact HO_3.out)); (case aS => exact (below_size (by repeat (first | (with_reducible first | exact HB.out | apply below_alloc | apply Zd | apply below_drew1) | exact HB.out)))); (case aL => have := LMc14.out; omega); intro v242 w17 ho hb hg hat; rw [← Ny241.out] at ho; have n0_ := Zm (Kd.S_over' (by (with_reducible repeat (first | apply Kd.S_alloc | apply Kd.S_drewN | apply Kd.S_drew)); exact HO_4.out) (Kd.R_typed (by (with_reducible repeat (first | apply Kd.R_alloc | apply Kd.R_drewN | apply Kd.R_drew)); exact HO_3.out)) (by decide) hg); have n1_ := Zm (Kd.R_over' (by (with_reducible repeat (first | apply Kd.R_alloc | apply Kd.R_drewN | apply Kd.R_drew)); exact HO_6.out) (Kd.R_typed (by (with_reducible repeat (first | apply Kd.R_alloc | apply Kd.R_drewN | apply Kd.R_drew)); exact HO_3.out)) (by decide) hg); have n2_ := Zm (hb); have n3_ := Zm (ho); clear HO_4; clear HO_6; clear HB; clear HO_3; have HO_4 := n0_; have HO_6 := n1_; have HB := n2_; have HO243 := n3_; clear n0_ n1_ n2_ n3_; clear ho hb hg hat) | ((with_reducible refine gate_builtin (b := .append) (xs := #[.tmp 58, .tmp 60]) rfl ?_); at_builtin; refine Kd.R_append (Kd.int .i64) (w0 := w) w.heap.size rfl (.tmp 58) (.tmp 60) 22 3 (.int .i64 0) 8 rfl Try.underlying22 info3 rfl (by decide) (by omega) u6 x6_2 x8_3 [.int .i64 x8_3] (fun _ => True) (fun _ => False) rfl rfl ?aP (fun _ hk => hk.elim) ?aF ?aO ?aB ?aS ?aL ?_; (case aP => exact rfl); (case aB => exact (by repeat (first | (with_reducible first | exact HB.out | apply below_alloc | apply Zd | apply below_drew1) | exact HB.out))); (case aF => exact (fun _ _ => trivial)); (case aO => exact (by (with_reducible repeat (first | apply Kd.R_alloc | apply Kd.R_drewN | apply Kd.R_drew)); exact HO_6.out)); (case aS => exact (below_size (by repeat (first | (with_reducible first | exact HB.out | apply below_alloc | apply Zd | apply below_drew1) | exact HB.out)))); (case aL => have := LMc15.out; omega); intro v245 w18 ho hb hg hat; rw [← Ny244.out] at ho; have n0_ := Zm (Kd.S_after (ok := (fun _ => True)) (by (with_reducible repeat (first | apply Kd.S_alloc | apply Kd.S_drewN | apply Kd.S_drew)); exact Kd.S_mono HO_4.out (fun _ hk => ⟨trivial, hk⟩)) hg hat); have n1_ := Zm (Kd.R_over' (by (with_reducible repeat (first | apply Kd.R_alloc | apply Kd.R_drewN | apply Kd.R_drew)); exact HO243.out) (Kd.R_typed (by (with_reducible repeat (first | apply Kd.R_alloc | apply Kd.R_drewN | apply Kd.R_drew)); exact HO_6.out)) (by decide) hg); have n2_ := Zm (hb); have n3_ := Zm (ho); clear HO_4; clear HO243; clear HB; clear HO_6; have HO_4 := n0_; have HO243 := n1_; have HB := n2_; have HO246 := n3_; clear n0_ n1_ n2_ n3_; clear ho hb hg hat)))
                     go_roundg k3
                     case measure => have := HK1.out; have := HK2.out; have := HK3.out; omega
                     case rel => exact ⟨(y241), (y244), (wrap64 (x7_2 + 1)), (by first | rfl | (simp; done) | (simp [*]; done)), H', ⟨by have := HK1.out; have := HK2.out; have := HK3.out; omega⟩, ⟨by (with_reducible repeat (first | apply Kd.R_alloc | apply Kd.R_drewN | apply Kd.R_drew)); first | exact HO243.out | exact Kd.R_mono HO243.out (fun _ _ => trivial)⟩, ⟨by (with_reducible repeat (first | apply Kd.S_alloc | apply Kd.S_drewN | apply Kd.S_drew)); exact Kd.S_mono HO_4.out (fun _ hk => hk.2)⟩, ⟨by (with_reducible repeat (first | apply Kd.R_alloc | apply Kd.R_drewN | apply Kd.R_drew)); first | exact HO246.out | exact Kd.R_mono HO246.out (fun _ _ => trivial)⟩, ⟨by repeat (first | (with_reducible first | exact HB.out | apply below_alloc | apply Zd | apply below_drew1) | exact HB.out)⟩⟩
                    ·rw [if_neg c15] at H
                     exact absurd H (by simp)
                   ·rw [if_neg c14] at H
                    exact absurd H (by simp)
                  ·rw [if_neg c13] at H
                   have c13b0 : (x8_3 == (x3_2.length : Int)) = false := beq_eq_false_iff_ne.mpr c13
                   have c13b1 : (x8_3 != (x3_2.length : Int)) = true := bne_iff_ne.mpr c13
                   by_cases c19 : x6_2.length < 17592186044416
                   ·rw [if_pos c19] at H
                    have LMc19 := Zm c19
                    clear c19
                    obtain ⟨y247, hy247⟩ : ∃ y_ : List Int, y_ = (x6_2 ++ [x8_3]) := ⟨_, rfl⟩
                    replace H : (r05_Numbers.l1 k3 l0 x3_2 x4_1 x5_1 y247 (wrap64 (x7_2 + 1))) = some r := by first | (rw [hy247]; with_reducible exact H) | (have H2_ := (Option.bind_some _ _).symm.trans H; rw [hy247]; with_reducible exact H2_) | (have H2_ := (Option.bind_some _ _).symm.trans H; with_reducible exact H2_) | with_reducible exact H | (rw [hy247]; exact H) | exact H
                    have Ny247 := Zm hy247
                    clear hy247
                    have H' := Zm H
                    clear H
                    obtain ⟨Ao20, co20, eo20⟩ := Kd.R_slice HO_3.out
                    subst eo20
                    have p236 : 0 ≤ (x8_3 : Int) := Zo (by first | (with_reducible assumption) | assumption)
                    have q236 : x8_3 < (x3_2.length : Int) := Zo (by first | (with_reducible assumption) | assumption)
                    obtain ⟨ad236, e236, hx236_0⟩ := Kd.at_string (Kd.R_reads' HO_3.out).2.2 x8_3 p236 q236
                    cases e236
                    replace p236 := eq_true p236
                    replace q236 := eq_true q236
                    have p237 : 0 ≤ (x5_1 : Int) := Zo (by first | (with_reducible assumption) | assumption)
                    have q237 : x5_1 < (l0.length : Int) := Zo (by first | (with_reducible assumption) | assumption)
                    obtain ⟨ad237, A237_0, c237_0, e237, hx237_0, hl237_0, hi237_0⟩ := at_L5 HR0.out x5_1 p237 q237
                    obtain rfl : ad232 = ad237 := (by injection e237)
                    replace hx237_0 := (HB.out.cell (World.block_lt_of_cell? w _ hx237_0)).trans hx237_0
                    have HR237_0 := Zm hi237_0
                    have HC237_0 := Zm hl237_0
                    clear hi237_0 hl237_0
                    replace p237 := eq_true p237
                    replace q237 := eq_true q237
                    have p238 : 0 ≤ (x7_2 : Int) := Zo (by first | (with_reducible assumption) | assumption)
                    have q238 : x7_2 < ((rd_L5 l0 x5_1).length : Int) := Zo (by first | (with_reducible assumption) | assumption)
                    obtain ⟨ad238, e238, hx238_0⟩ := Kd.at_string HR237_0.out x7_2 p238 q238
                    cases e238
                    replace hx238_0 := (HB.out.cell (World.block_lt_of_cell? w _ hx238_0)).trans hx238_0
                    replace p238 := eq_true p238
                    replace q238 := eq_true q238
                    go_wp2_with (first | ((with_reducible refine gate_builtin (b := .append) (xs := #[.tmp 58, .tmp 60]) rfl ?_); at_builtin; refine Kd.R_append (Kd.int .i64) (w0 := w) w.heap.size rfl (.tmp 58) (.tmp 60) 22 3 (.int .i64 0) 8 rfl Try.underlying22 info3 rfl (by decide) (by omega) u6 x6_2 x8_3 [.int .i64 x8_3] (fun _ => True) (fun _ => False) rfl rfl ?aP (fun _ hk => hk.elim) ?aF ?aO ?aB ?aS ?aL ?_; (case aP => exact rfl); (case aB => exact (by repeat (first | (with_reducible first | exact HB.out | apply below_alloc | apply Zd | apply below_drew1) | exact HB.out))); (case aF => exact (fun _ _ => trivial)); (case aO => exact (by (with_reducible repeat (first | apply Kd.R_alloc | apply Kd.R_drewN | apply Kd.R_drew)); exact HO_6.out)); (case aS => exact (below_size (by repeat (first | (with_reducible first | exact HB.out | apply below_alloc | apply Zd | apply below_drew1) | exact HB.out)))); (case aL => have := LMc19.out; omega); intro v248 w21 ho hb hg hat; rw [← Ny247.out] at ho; have n0_ := Zm (Kd.R_over' (by (with_reducible repeat (first | apply Kd.R_alloc | apply Kd.R_drewN | apply Kd.R_drew)); exact HO_3.out) (Kd.R_typed (by (with_reducible repeat (first | apply Kd.R_alloc | apply Kd.R_drewN | apply Kd.R_drew)); exact HO_6.out)) (by decide) hg); have n1_ := Zm (Kd.S_after (ok := (fun _ => True)) (by (with_reducible repeat (first | apply Kd.S_alloc | apply Kd.S_drewN | apply Kd.S_drew)); exact Kd.S_mono HO_4.out (fun _ hk => ⟨trivial, hk⟩)) hg hat); have n2_ := Zm (hb); have n3_ := Zm (ho); clear HO_3; clear HO_4; clear HB; clear HO_6; have HO_3 := n0_; have HO_4 := n1_; have HB := n2_; have HO249 := n3_; clear n0_ n1_ n2_ n3_; clear ho hb hg hat))
                    repeat (go_quiet (first | ((with_reducible refine gate_builtin (b := .append) (xs := #[.tmp 58, .tmp 60]) rfl ?_); at_builtin; refine Kd.R_append (Kd.int .i64) (w0 := w) w.heap.size rfl (.tmp 58) (.tmp 60) 22 3 (.int .i64 0) 8 rfl Try.underlying22 info3 rfl (by decide) (by omega) u6 x6_2 x8_3 [.int .i64 x8_3] (fun _ => True) (fun _ => False) rfl rfl ?aP (fun _ hk => hk.elim) ?aF ?aO ?aB ?aS ?aL ?_; (case aP => exact rfl); (case aB => exact (by repeat (first | (with_reducible first | exact HB.out | apply below_alloc | apply Zd | apply below_drew1) | exact HB.out))); (case aF => exact (fun _ _ => trivial)); (case aO => exact (by (with_reducible repeat (first | apply Kd.R_alloc | apply Kd.R_drewN | apply Kd.R_drew)); exact HO_6.out)); (case aS => exact (below_size (by repeat (first | (with_reducible first | exact HB.out | apply below_alloc | apply Zd | apply below_drew1) | exact HB.out)))); (case aL => have := LMc19.out; omega); intro v248 w21 ho hb hg hat; rw [← Ny247.out] at ho; have n0_ := Zm (Kd.R_over' (by (with_reducible repeat (first | apply Kd.R_alloc | apply Kd.R_drewN | apply Kd.R_drew)); exact HO_3.out) (Kd.R_typed (by (with_reducible repeat (first | apply Kd.R_alloc | apply Kd.R_drewN | apply Kd.R_drew)); exact HO_6.out)) (by decide) hg); have n1_ := Zm (Kd.S_after (ok := (fun _ => True)) (by (with_reducible repeat (first | apply Kd.S_alloc | apply Kd.S_drewN | apply Kd.S_drew)); exact Kd.S_mono HO_4.out (fun _ hk => ⟨trivial, hk⟩)) hg hat); have n2_ := Zm (hb); have n3_ := Zm (ho); clear HO_3; clear HO_4; clear HB; clear HO_6; have HO_3 := n0_; have HO_4 := n1_; have HB := n2_; have HO249 := n3_; clear n0_ n1_ n2_ n3_; clear ho hb hg hat)); try go_wp2_with (first | ((with_reducible refine gate_builtin (b := .append) (xs := #[.tmp 58, .tmp 60]) rfl ?_); at_builtin; refine Kd.R_append (Kd.int .i64) (w0 := w) w.heap.size rfl (.tmp 58) (.tmp 60) 22 3 (.int .i64 0) 8 rfl Try.underlying22 info3 rfl (by decide) (by omega) u6 x6_2 x8_3 [.int .i64 x8_3] (fun _ => True) (fun _ => False) rfl rfl ?aP (fun _ hk => hk.elim) ?aF ?aO ?aB ?aS ?aL ?_; (case aP => exact rfl); (case aB => exact (by repeat (first | (with_reducible first | exact HB.out | apply below_alloc | apply Zd | apply below_drew1) | exact HB.out))); (case aF => exact (fun _ _ => trivial)); (case aO => exact (by (with_reducible repeat (first | apply Kd.R_alloc | apply Kd.R_drewN | apply Kd.R_drew)); exact HO_6.out)); (case aS => exact (below_size (by repeat (first | (with_reducible first | exact HB.out | apply below_alloc | apply Zd | apply below_drew1) | exact HB.out)))); (case aL => have := LMc19.out; omega); intro v248 w21 ho hb hg hat; rw [← Ny247.out] at ho; have n0_ := Zm (Kd.R_over' (by (with_reducible repeat (first | apply Kd.R_alloc | apply Kd.R_drewN | apply Kd.R_drew)); exact HO_3.out) (Kd.R_typed (by (with_reducible repeat (first | apply Kd.R_alloc | apply Kd.R_drewN | apply Kd.R_drew)); exact HO_6.out)) (by decide) hg); have n1_ := Zm (Kd.S_after (ok := (fun _ => True)) (by (with_reducible repeat (first | apply Kd.S_alloc | apply Kd.S_drewN | apply Kd.S_drew)); exact Kd.S_mono HO_4.out (fun _ hk => ⟨trivial, hk⟩)) hg hat); have n2_ := Zm (hb); have n3_ := Zm (ho); clear HO_3; clear HO_4; clear HB; clear HO_6; have HO_3 := n0_; have HO_4 := n1_; have HB := n2_; have HO249 := n3_; clear n0_ n1_ n2_ n3_; clear ho hb hg hat)))
                    go_roundg k3
                    case measure => have := HK1.out; have := HK2.out; have := HK3.out; omega
                    case rel => exact ⟨(x3_2), (y247), (wrap64 (x7_2 + 1)), (by first | rfl | (simp; done) | (simp [*]; done)), H', ⟨by have := HK1.out; have := HK2.out; have := HK3.out; omega⟩, ⟨by (with_reducible repeat (first | apply Kd.R_alloc | apply Kd.R_drewN | apply Kd.R_drew)); first | exact HO_3.out | exact Kd.R_mono HO_3.out (fun _ _ => trivial)⟩, ⟨by (with_reducible repeat (first | apply Kd.S_alloc | apply Kd.S_drewN | apply Kd.S_drew)); exact Kd.S_mono HO_4.out (fun _ hk => hk.2)⟩, ⟨by (with_reducible repeat (first | apply Kd.R_alloc | apply Kd.R_drewN | apply Kd.R_drew)); first | exact HO249.out | exact Kd.R_mono HO249.out (fun _ _ => trivial)⟩, ⟨by repeat (first | (with_reducible first | exact HB.out | apply below_alloc | apply Zd | apply below_drew1) | exact HB.out)⟩⟩
                   ·rw [if_neg c19] at H
                    exact absurd H (by simp)
                 ·rw [if_neg c12] at H
                  have c12b0 : ((rdOf ByteArray.empty x3_2 x8_3).toList == (rdOf ByteArray.empty (rd_L5 l0 x5_1) x7_2).toList) = false := beq_eq_false_iff_ne.mpr c12
                  have c12b1 : ((rdOf ByteArray.empty x3_2 x8_3).toList != (rdOf ByteArray.empty (rd_L5 l0 x5_1) x7_2).toList) = true := bne_iff_ne.mpr c12
                  have H' := Zm H
                  clear H
                  obtain ⟨Ao22, co22, eo22⟩ := Kd.R_slice HO_3.out
                  subst eo22
                  have p236 : 0 ≤ (x8_3 : Int) := Zo (by first | (with_reducible assumption) | assumption)
                  have q236 : x8_3 < (x3_2.length : Int) := Zo (by first | (with_reducible assumption) | assumption)
                  obtain ⟨ad236, e236, hx236_0⟩ := Kd.at_string (Kd.R_reads' HO_3.out).2.2 x8_3 p236 q236
                  cases e236
                  replace p236 := eq_true p236
                  replace q236 := eq_true q236
                  have p237 : 0 ≤ (x5_1 : Int) := Zo (by first | (with_reducible assumption) | assumption)
                  have q237 : x5_1 < (l0.length : Int) := Zo (by first | (with_reducible assumption) | assumption)
                  obtain ⟨ad237, A237_0, c237_0, e237, hx237_0, hl237_0, hi237_0⟩ := at_L5 HR0.out x5_1 p237 q237
                  obtain rfl : ad232 = ad237 := (by injection e237)
                  replace hx237_0 := (HB.out.cell (World.block_lt_of_cell? w _ hx237_0)).trans hx237_0
                  have HR237_0 := Zm hi237_0
                  have HC237_0 := Zm hl237_0
                  clear hi237_0 hl237_0
                  replace p237 := eq_true p237
                  replace q237 := eq_true q237
                  have p238 : 0 ≤ (x7_2 : Int) := Zo (by first | (with_reducible assumption) | assumption)
                  have q238 : x7_2 < ((rd_L5 l0 x5_1).length : Int) := Zo (by first | (with_reducible assumption) | assumption)
                  obtain ⟨ad238, e238, hx238_0⟩ := Kd.at_string HR237_0.out x7_2 p238 q238
                  cases e238
                  replace hx238_0 := (HB.out.cell (World.block_lt_of_cell? w _ hx238_0)).trans hx238_0
                  replace p238 := eq_true p238
                  replace q238 := eq_true q238
                  go_wp2
                  repeat (go_quiet (fail); try go_wp2)
                  go_roundg k3
                  case measure => have := HK1.out; have := HK2.out; have := HK3.out; omega
                  case rel => exact ⟨(wrap64 (x8_3 + 1)), (by first | rfl | (simp; done) | (simp [*]; done)), H', ⟨by have := HK1.out; have := HK2.out; have := HK3.out; omega⟩, ⟨by (with_reducible repeat (first | apply Kd.R_alloc | apply Kd.R_drewN | apply Kd.R_drew)); first | exact HO_3.out | exact Kd.R_mono HO_3.out (fun _ _ => trivial)⟩, ⟨by (with_reducible repeat (first | apply Kd.S_alloc | apply Kd.S_drewN | apply Kd.S_drew)); exact HO_4.out⟩, ⟨by (with_reducible repeat (first | apply Kd.R_alloc | apply Kd.R_drewN | apply Kd.R_drew)); first | exact HO_6.out | exact Kd.R_mono HO_6.out (fun _ _ => trivial)⟩, ⟨by repeat (first | (with_reducible first | exact HB.out | apply below_alloc | apply Zd | apply below_drew1) | exact HB.out)⟩⟩
                ·rw [if_neg c11] at H
                 exact absurd H (by simp)
               ·rw [if_neg c10] at H
                exact absurd H (by simp)
              ·rw [if_neg c9] at H
               exact absurd H (by simp)
             ·rw [if_neg c8] at H
              exact absurd H (by simp)
            ·rw [if_neg c7] at H
             exact absurd H (by simp)
           ·rw [if_neg c6] at H
            have c6b0 : decide (x8_3 < (x3_2.length : Int)) = false := decide_eq_false c6
            clear c6
            by_cases c23 : x8_3 = (x3_2.length : Int)
            ·rw [if_pos c23] at H
             have c23b0 : (x8_3 == (x3_2.length : Int)) = true := beq_iff_eq.mpr c23
             have c23b1 : (x8_3 != (x3_2.length : Int)) = false := bne_eq_false_iff_eq.mpr c23
             clear c23
             by_cases c24 : 0 ≤ x5_1
             ·rw [if_pos c24] at H
              have c24b0 : decide (0 ≤ x5_1) = true := decide_eq_true c24
              clear c24
              by_cases c25 : x5_1 < (l0.length : Int)
              ·rw [if_pos c25] at H
               have c25b0 : decide (x5_1 < (l0.length : Int)) = true := decide_eq_true c25
               clear c25
               by_cases c26 : 0 ≤ x7_2
               ·rw [if_pos c26] at H
                have c26b0 : decide (0 ≤ x7_2) = true := decide_eq_true c26
                clear c26
                by_cases c27 : x7_2 < ((rd_L5 l0 x5_1).length : Int)
                ·rw [if_pos c27] at H
                 have c27b0 : decide (x7_2 < ((rd_L5 l0 x5_1).length : Int)) = true := decide_eq_true c27
                 clear c27
                 by_cases c28 : x3_2.length < 8796093022208
                 ·rw [if_pos c28] at H
                  have LMc28 := Zm c28
                  clear c28
                  obtain ⟨y252, hy252⟩ : ∃ y_ : List ByteArray, y_ = (x3_2 ++ [rdOf ByteArray.empty (rd_L5 l0 x5_1) x7_2]) := ⟨_, rfl⟩
                  replace H : (if x6_2.length < 17592186044416 then (r05_Numbers.l1 k3 l0 y252 x4_1 x5_1 (x6_2 ++ [x8_3]) (wrap64 (x7_2 + 1))) else (none)) = some r := by first | (rw [hy252]; with_reducible exact H) | (have H2_ := (Option.bind_some _ _).symm.trans H; rw [hy252]; with_reducible exact H2_) | (have H2_ := (Option.bind_some _ _).symm.trans H; with_reducible exact H2_) | with_reducible exact H | (rw [hy252]; exact H) | exact H
                  have Ny252 := Zm hy252
                  clear hy252
                  by_cases c29 : x6_2.length < 17592186044416
                  ·rw [if_pos c29] at H
                   have LMc29 := Zm c29
                   clear c29
                   obtain ⟨y255, hy255⟩ : ∃ y_ : List Int, y_ = (x6_2 ++ [x8_3]) := ⟨_, rfl⟩
                   replace H : (r05_Numbers.l1 k3 l0 y252 x4_1 x5_1 y255 (wrap64 (x7_2 + 1))) = some r := by first | (rw [hy255]; with_reducible exact H) | (have H2_ := (Option.bind_some _ _).symm.trans H; rw [hy255]; with_reducible exact H2_) | (have H2_ := (Option.bind_some _ _).symm.trans H; with_reducible exact H2_) | with_reducible exact H | (rw [hy255]; exact H) | exact H
                   have Ny255 := Zm hy255
                   clear hy255
                   have H' := Zm H
                   clear H
                   obtain ⟨Ao30, co30, eo30⟩ := Kd.R_slice HO_3.out
                   subst eo30
                   have p250 : 0 ≤ (x5_1 : Int) := Zo (by first | (with_reducible assumption) | assumption)
                   have q250 : x5_1 < (l0.length : Int) := Zo (by first | (with_reducible assumption) | assumption)
                   obtain ⟨ad250, A250_0, c250_0, e250, hx250_0, hl250_0, hi250_0⟩ := at_L5 HR0.out x5_1 p250 q250
                   obtain rfl : ad232 = ad250 := (by injection e250)
                   replace hx250_0 := (HB.out.cell (World.block_lt_of_cell? w _ hx250_0)).trans hx250_0
                   have HR250_0 := Zm hi250_0
                   have HC250_0 := Zm hl250_0
                   clear hi250_0 hl250_0
                   replace p250 := eq_true p250
                   replace q250 := eq_true q250
                   have p251 : 0 ≤ (x7_2 : Int) := Zo (by first | (with_reducible assumption) | assumption)
                   have q251 : x7_2 < ((rd_L5 l0 x5_1).length : Int) := Zo (by first | (with_reducible assumption) | assumption)
                   obtain ⟨ad251, e251, hx251_0⟩ := Kd.at_string HR250_0.out x7_2 p251 q251
                   cases e251
                   replace hx251_0 := (HB.out.cell (World.block_lt_of_cell? w _ hx251_0)).trans hx251_0
                   replace p251 := eq_true p251
                   replace q251 := eq_true q251
                   go_wp2_with (first | ((with_reducible refine gate_builtin (b := .append) (xs := #[.tmp 48, .tmp 56]) rfl ?_); at_builtin; refine Kd.R_append Kd.string (w0 := w) w.heap.size rfl (.tmp 48) (.tmp 56) 25 9 (.string ⟨#[]⟩) 16 rfl Try.underlying25 info9 rfl (by decide) (by omega) (.slice Ao30 x3_2.length co30) x3_2 (rdOf ByteArray.empty (rd_L5 l0 x5_1) x7_2) [.string (rdOf ByteArray.empty (rd_L5 l0 x5_1) x7_2)] (fun _ => True) (fun _ => False) rfl rfl ?aP (fun _ hk => hk.elim) ?aF ?aO ?aB ?aS ?aL ?_; (case aP => exact rfl); (case aB => exact (by repeat (first | (with_reducible first | exact HB.out | apply below_alloc | apply Zd | apply below_drew1) | exact HB.out))); (case aF => exact (fun _ _ => trivial)); (case aO => exact (by (with_reducible repeat (first | apply Kd.R_alloc | apply Kd.R_drewN | apply Kd.R_drew)); exact HO_3.out)); (case aS => exact (below_size (by repeat (first | (with_reducible first | exact HB.out | apply below_alloc | apply Zd | apply below_drew1) | exact HB.out)))); (case aL => have := LMc28.out; omega); intro v253 w31 ho hb hg hat; rw [← Ny252.out] at ho; have n0_ := Zm (Kd.S_over' (by (with_reducible repeat (first | apply Kd.S_alloc | apply Kd.S_drewN | apply Kd.S_drew)); exact HO_4.out) (Kd.R_typed (by (with_reducible repeat (first | apply Kd.R_alloc | apply Kd.R_drewN | apply Kd.R_drew)); exact HO_3.out)) (by decide) hg); have n1_ := Zm (Kd.R_over' (by (with_reducible repeat (first | apply Kd.R_alloc | apply Kd.R_drewN | apply Kd.R_drew)); exact HO_6.out) (Kd.R_typed (by (with_reducible repeat (first | apply Kd.R_alloc | apply Kd.R_drewN | apply Kd.R_drew)); exact HO_3.out)) (by decide) hg); have n2_ := Zm (hb); have n3_ := Zm (ho); clear HO_4; clear HO_6; clear HB; clear HO_3; have HO_4 := n0_; have HO_6 := n1_; have HB := n2_; have HO254 := n3_; clear n0_ n1_ n2_ n3_; clear ho hb hg hat) | ((with_reducible refine gate_builtin (b := .append) (xs := #[.tmp 58, .tmp 60]) rfl ?_); at_builtin; refine Kd.R_append (Kd.int .i64) (w0 := w) w.heap.size rfl (.tmp 58) (.tmp 60) 22 3 (.int .i64 0) 8 rfl Try.underlying22 info3 rfl (by decide) (by omega) u6 x6_2 x8_3 [.int .i64 x8_3] (fun _ => True) (fun _ => False) rfl rfl ?aP (fun _ hk => hk.elim) ?aF ?aO ?aB ?aS ?aL ?_; (case aP => exact rfl); (case aB => exact (by repeat (first | (with_reducible first | exact HB.out | apply below_alloc | apply Zd | apply below_drew1) | exact HB.out))); (case aF => exact (fun _ _ => trivial)); (case aO => exact (by (with_reducible repeat (first | apply Kd.R_alloc | apply Kd.R_drewN | apply Kd.R_drew)); exact HO_6.out)); (case aS => exact (below_size (by repeat (first | (with_reducible first | exact HB.out | apply below_alloc | apply Zd | apply below_drew1) | exact HB.out)))); (case aL => have := LMc29.out; omega); intro v256 w32 ho hb hg hat; rw [← Ny255.out] at ho; have n0_ := Zm (Kd.S_after (ok := (fun _ => True)) (by (with_reducible repeat (first | apply Kd.S_alloc | apply Kd.S_drewN | apply Kd.S_drew)); exact Kd.S_mono HO_4.out (fun _ hk => ⟨trivial, hk⟩)) hg hat); have n1_ := Zm (Kd.R_over' (by (with_reducible repeat (first | apply Kd.R_alloc | apply Kd.R_drewN | apply Kd.R_drew)); exact HO254.out) (Kd.R_typed (by (with_reducible repeat (first | apply Kd.R_alloc | apply Kd.R_drewN | apply Kd.R_drew)); exact HO_6.out)) (by decide) hg); have n2_ := Zm (hb); have n3_ := Zm (ho); clear HO_4; clear HO254; clear HB; clear HO_6; have HO_4 := n0_; have HO254 := n1_; have HB := n2_; have HO257 := n3_; clear n0_ n1_ n2_ n3_; clear ho hb hg hat))
                   repeat (go_quiet (first | ((with_reducible refine gate_builtin (b := .append) (xs := #[.tmp 48, .tmp 56]) rfl ?_); at_builtin; refine Kd.R_append Kd.string (w0 := w) w.heap.size rfl (.tmp 48) (.tmp 56) 25 9 (.string ⟨#[]⟩) 16 rfl Try.underlying25 info9 rfl (by decide) (by omega) (.slice Ao30 x3_2.length co30) x3_2 (rdOf ByteArray.empty (rd_L5 l0 x5_1) x7_2) [.string (rdOf ByteArray.empty (rd_L5 l0 x5_1) x7_2)] (fun _ => True) (fun _ => False) rfl rfl ?aP (fun _ hk => hk.elim) ?aF ?aO ?aB ?aS ?aL ?_; (case aP => exact rfl); (case aB => exact (by repeat (first | (with_reducible first | exact HB.out | apply below_alloc | apply Zd | apply below_drew1) | exact HB.out))); (case aF => exact (fun _ _ => trivial)); (case aO => exact (by (with_reducible repeat (first | apply Kd.R_alloc | apply Kd.R_drewN | apply Kd.R_drew)); exact HO_3.out)); (case aS => exact (below_size (by repeat (first | (with_reducible first | exact HB.out | apply below_alloc | apply Zd | apply below_drew1) | exact HB.out)))); (case aL => have := LMc28.out; omega); intro v253 w31 ho hb hg hat; rw [← Ny252.out] at ho; have n0_ := Zm (Kd.S_over' (by (with_reducible repeat (first | apply Kd.S_alloc | apply Kd.S_drewN | apply Kd.S_drew)); exact HO_4.out) (Kd.R_typed (by (with_reducible repeat (first | apply Kd.R_alloc | apply Kd.R_drewN | apply Kd.R_drew)); exact HO_3.out)) (by decide) hg); have n1_ := Zm (Kd.R_over' (by (with_reducible repeat (first | apply Kd.R_alloc | apply Kd.R_drewN | apply Kd.R_drew)); exact HO_6.out) (Kd.R_typed (by (with_reducible repeat (first | apply Kd.R_alloc | apply Kd.R_drewN | apply Kd.R_drew)); exact HO_3.out)) (by decide) hg); have n2_ := Zm (hb); have n3_ := Zm (ho); clear HO_4; clear HO_6; clear HB; clear HO_3; have HO_4 := n0_; have HO_6 := n1_; have HB := n2_; have HO254 := n3_; clear n0_ n1_ n2_ n3_; clear ho hb hg hat) | ((with_reducible refine gate_builtin (b := .append) (xs := #[.tmp 58, .tmp 60]) rfl ?_); at_builtin; refine Kd.R_append (Kd.int .i64) (w0 := w) w.heap.size rfl (.tmp 58) (.tmp 60) 22 3 (.int .i64 0) 8 rfl Try.underlying22 info3 rfl (by decide) (by omega) u6 x6_2 x8_3 [.int .i64 x8_3] (fun _ => True) (fun _ => False) rfl rfl ?aP (fun _ hk => hk.elim) ?aF ?aO ?aB ?aS ?aL ?_; (case aP => exact rfl); (case aB => exact (by repeat (first | (with_reducible first | exact HB.out | apply below_alloc | apply Zd | apply below_drew1) | exact HB.out))); (case aF => exact (fun _ _ => trivial)); (case aO => exact (by (with_reducible repeat (first | apply Kd.R_alloc | apply Kd.R_drewN | apply Kd.R_drew)); exact HO_6.out)); (case aS => exact (below_size (by repeat (first | (with_reducible first | exact HB.out | apply below_alloc | apply Zd | apply below_drew1) | exact HB.out)))); (case aL => have := LMc29.out; omega); intro v256 w32 ho hb hg hat; rw [← Ny255.out] at ho; have n0_ := Zm (Kd.S_after (ok := (fun _ => True)) (by (with_reducible repeat (first | apply Kd.S_alloc | apply Kd.S_drewN | apply Kd.S_drew)); exact Kd.S_mono HO_4.out (fun _ hk => ⟨trivial, hk⟩)) hg hat); have n1_ := Zm (Kd.R_over' (by (with_reducible repeat (first | apply Kd.R_alloc | apply Kd.R_drewN | apply Kd.R_drew)); exact HO254.out) (Kd.R_typed (by (with_reducible repeat (first | apply Kd.R_alloc | apply Kd.R_drewN | apply Kd.R_drew)); exact HO_6.out)) (by decide) hg); have n2_ := Zm (hb); have n3_ := Zm (ho); clear HO_4; clear HO254; clear HB; clear HO_6; have HO_4 := n0_; have HO254 := n1_; have HB := n2_; have HO257 := n3_; clear n0_ n1_ n2_ n3_; clear ho hb hg hat)); try go_wp2_with (first | ((with_reducible refine gate_builtin (b := .append) (xs := #[.tmp 48, .tmp 56]) rfl ?_); at_builtin; refine Kd.R_append Kd.string (w0 := w) w.heap.size rfl (.tmp 48) (.tmp 56) 25 9 (.string ⟨#[]⟩) 16 rfl Try.underlying25 info9 rfl (by decide) (by omega) (.slice Ao30 x3_2.length co30) x3_2 (rdOf ByteArray.empty (rd_L5 l0 x5_1) x7_2) [.string (rdOf ByteArray.empty (rd_L5 l0 x5_1) x7_2)] (fun _ => True) (fun _ => False) rfl rfl ?aP (fun _ hk => hk.elim) ?aF ?aO ?aB ?aS ?aL ?_; (case aP => exact rfl); (case aB => exact (by repeat (first | (with_reducible first | exact HB.out | apply below_alloc | apply Zd | apply below_drew1) | exact HB.out))); (case aF => exact (fun _ _ => trivial)); (case aO => exact (by (with_reducible repeat (first | apply Kd.R_alloc | apply Kd.R_drewN | apply Kd.R_drew)); exact HO_3.out)); (case aS => exact (below_size (by repeat (first | (with_reducible first | exact HB.out | apply below_alloc | apply Zd | apply below_drew1) | exact HB.out)))); (case aL => have := LMc28.out; omega); intro v253 w31 ho hb hg hat; rw [← Ny252.out] at ho; have n0_ := Zm (Kd.S_over' (by (with_reducible repeat (first | apply Kd.S_alloc | apply Kd.S_drewN | apply Kd.S_drew)); exact HO_4.out) (Kd.R_typed (by (with_reducible repeat (first | apply Kd.R_alloc | apply Kd.R_drewN | apply Kd.R_drew)); exact HO_3.out)) (by decide) hg); have n1_ := Zm (Kd.R_over' (by (with_reducible repeat (first | apply Kd.R_alloc | apply Kd.R_drewN | apply Kd.R_drew)); exact HO_6.out) (Kd.R_typed (by (with_reducible repeat (first | apply Kd.R_alloc | apply Kd.R_drewN | apply Kd.R_drew)); exact HO_3.out)) (by decide) hg); have n2_ := Zm (hb); have n3_ := Zm (ho); clear HO_4; clear HO_6; clear HB; clear HO_3; have HO_4 := n0_; have HO_6 := n1_; have HB := n2_; have HO254 := n3_; clear n0_ n1_ n2_ n3_; clear ho hb hg hat) | ((with_reducible refine gate_builtin (b := .append) (xs := #[.tmp 58, .tmp 60]) rfl ?_); at_builtin; refine Kd.R_append (Kd.int .i64) (w0 := w) w.heap.size rfl (.tmp 58) (.tmp 60) 22 3 (.int .i64 0) 8 rfl Try.underlying22 info3 rfl (by decide) (by omega) u6 x6_2 x8_3 [.int .i64 x8_3] (fun _ => True) (fun _ => False) rfl rfl ?aP (fun _ hk => hk.elim) ?aF ?aO ?aB ?aS ?aL ?_; (case aP => exact rfl); (case aB => exact (by repeat (first | (with_reducible first | exact HB.out | apply below_alloc | apply Zd | apply below_drew1) | exact HB.out))); (case aF => exact (fun _ _ => trivial)); (case aO => exact (by (with_reducible repeat (first | apply Kd.R_alloc | apply Kd.R_drewN | apply Kd.R_drew)); exact HO_6.out)); (case aS => exact (below_size (by repeat (first | (with_reducible first | exact HB.out | apply below_alloc | apply Zd | apply below_drew1) | exact HB.out)))); (case aL => have := LMc29.out; omega); intro v256 w32 ho hb hg hat; rw [← Ny255.out] at ho; have n0_ := Zm (Kd.S_after (ok := (fun _ => True)) (by (with_reducible repeat (first | apply Kd.S_alloc | apply Kd.S_drewN | apply Kd.S_drew)); exact Kd.S_mono HO_4.out (fun _ hk => ⟨trivial, hk⟩)) hg hat); have n1_ := Zm (Kd.R_over' (by (with_reducible repeat (first | apply Kd.R_alloc | apply Kd.R_drewN | apply Kd.R_drew)); exact HO254.out) (Kd.R_typed (by (with_reducible repeat (first | apply Kd.R_alloc | apply Kd.R_drewN | apply Kd.R_drew)); exact HO_6.out)) (by decide) hg); have n2_ := Zm (hb); have n3_ := Zm (ho); clear HO_4; clear HO254; clear HB; clear HO_6; have HO_4 := n0_; have HO254 := n1_; have HB := n2_; have HO257 := n3_; clear n0_ n1_ n2_ n3_; clear ho hb hg hat)))
                   go_roundg k3
                   case measure => have := HK1.out; have := HK2.out; have := HK3.out; omega
                   case rel => exact ⟨(y252), (y255), (wrap64 (x7_2 + 1)), (by first | rfl | (simp; done) | (simp [*]; done)), H', ⟨by have := HK1.out; have := HK2.out; have := HK3.out; omega⟩, ⟨by (with_reducible repeat (first | apply Kd.R_alloc | apply Kd.R_drewN | apply Kd.R_drew)); first | exact HO254.out | exact Kd.R_mono HO254.out (fun _ _ => trivial)⟩, ⟨by (with_reducible repeat (first | apply Kd.S_alloc | apply Kd.S_drewN | apply Kd.S_drew)); exact Kd.S_mono HO_4.out (fun _ hk => hk.2)⟩, ⟨by (with_reducible repeat (first | apply Kd.R_alloc | apply Kd.R_drewN | apply Kd.R_drew)); first | exact HO257.out | exact Kd.R_mono HO257.out (fun _ _ => trivial)⟩, ⟨by repeat (first | (with_reducible first | exact HB.out | apply below_alloc | apply Zd | apply below_drew1) | exact HB.out)⟩⟩
                  ·rw [if_neg c29] at H
                   exact absurd H (by simp)
                 ·rw [if_neg c28] at H
                  exact absurd H (by simp)
                ·rw [if_neg c27] at H
                 exact absurd H (by simp)
               ·rw [if_neg c26] at H
                exact absurd H (by simp)
              ·rw [if_neg c25] at H
               exact absurd H (by simp)
             ·rw [if_neg c24] at H
              exact absurd H (by simp)
            ·rw [if_neg c23] at H
             have c23b0 : (x8_3 == (x3_2.length : Int)) = false := beq_eq_false_iff_ne.mpr c23
             have c23b1 : (x8_3 != (x3_2.length : Int)) = true := bne_iff_ne.mpr c23
             by_cases c33 : x6_2.length < 17592186044416
             ·rw [if_pos c33] at H
              have LMc33 := Zm c33
              clear c33
              obtain ⟨y258, hy258⟩ : ∃ y_ : List Int, y_ = (x6_2 ++ [x8_3]) := ⟨_, rfl⟩
              replace H : (r05_Numbers.l1 k3 l0 x3_2 x4_1 x5_1 y258 (wrap64 (x7_2 + 1))) = some r := by first | (rw [hy258]; with_reducible exact H) | (have H2_ := (Option.bind_some _ _).symm.trans H; rw [hy258]; with_reducible exact H2_) | (have H2_ := (Option.bind_some _ _).symm.trans H; with_reducible exact H2_) | with_reducible exact H | (rw [hy258]; exact H) | exact H
              have Ny258 := Zm hy258
              clear hy258
              have H' := Zm H
              clear H
              obtain ⟨Ao34, co34, eo34⟩ := Kd.R_slice HO_3.out
              subst eo34
              go_wp2_with (first | ((with_reducible refine gate_builtin (b := .append) (xs := #[.tmp 58, .tmp 60]) rfl ?_); at_builtin; refine Kd.R_append (Kd.int .i64) (w0 := w) w.heap.size rfl (.tmp 58) (.tmp 60) 22 3 (.int .i64 0) 8 rfl Try.underlying22 info3 rfl (by decide) (by omega) u6 x6_2 x8_3 [.int .i64 x8_3] (fun _ => True) (fun _ => False) rfl rfl ?aP (fun _ hk => hk.elim) ?aF ?aO ?aB ?aS ?aL ?_; (case aP => exact rfl); (case aB => exact (by repeat (first | (with_reducible first | exact HB.out | apply below_alloc | apply Zd | apply below_drew1) | exact HB.out))); (case aF => exact (fun _ _ => trivial)); (case aO => exact (by (with_reducible repeat (first | apply Kd.R_alloc | apply Kd.R_drewN | apply Kd.R_drew)); exact HO_6.out)); (case aS => exact (below_size (by repeat (first | (with_reducible first | exact HB.out | apply below_alloc | apply Zd | apply below_drew1) | exact HB.out)))); (case aL => have := LMc33.out; omega); intro v259 w35 ho hb hg hat; rw [← Ny258.out] at ho; have n0_ := Zm (Kd.R_over' (by (with_reducible repeat (first | apply Kd.R_alloc | apply Kd.R_drewN | apply Kd.R_drew)); exact HO_3.out) (Kd.R_typed (by (with_reducible repeat (first | apply Kd.R_alloc | apply Kd.R_drewN | apply Kd.R_drew)); exact HO_6.out)) (by decide) hg); have n1_ := Zm (Kd.S_after (ok := (fun _ => True)) (by (with_reducible repeat (first | apply Kd.S_alloc | apply Kd.S_drewN | apply Kd.S_drew)); exact Kd.S_mono HO_4.out (fun _ hk => ⟨trivial, hk⟩)) hg hat); have n2_ := Zm (hb); have n3_ := Zm (ho); clear HO_3; clear HO_4; clear HB; clear HO_6; have HO_3 := n0_; have HO_4 := n1_; have HB := n2_; have HO260 := n3_; clear n0_ n1_ n2_ n3_; clear ho hb hg hat))
              repeat (go_quiet (first | ((with_reducible refine gate_builtin (b := .append) (xs := #[.tmp 58, .tmp 60]) rfl ?_); at_builtin; refine Kd.R_append (Kd.int .i64) (w0 := w) w.heap.size rfl (.tmp 58) (.tmp 60) 22 3 (.int .i64 0) 8 rfl Try.underlying22 info3 rfl (by decide) (by omega) u6 x6_2 x8_3 [.int .i64 x8_3] (fun _ => True) (fun _ => False) rfl rfl ?aP (fun _ hk => hk.elim) ?aF ?aO ?aB ?aS ?aL ?_; (case aP => exact rfl); (case aB => exact (by repeat (first | (with_reducible first | exact HB.out | apply below_alloc | apply Zd | apply below_drew1) | exact HB.out))); (case aF => exact (fun _ _ => trivial)); (case aO => exact (by (with_reducible repeat (first | apply Kd.R_alloc | apply Kd.R_drewN | apply Kd.R_drew)); exact HO_6.out)); (case aS => exact (below_size (by repeat (first | (with_reducible first | exact HB.out | apply below_alloc | apply Zd | apply below_drew1) | exact HB.out)))); (case aL => have := LMc33.out; omega); intro v259 w35 ho hb hg hat; rw [← Ny258.out] at ho; have n0_ := Zm (Kd.R_over' (by (with_reducible repeat (first | apply Kd.R_alloc | apply Kd.R_drewN | apply Kd.R_drew)); exact HO_3.out) (Kd.R_typed (by (with_reducible repeat (first | apply Kd.R_alloc | apply Kd.R_drewN | apply Kd.R_drew)); exact HO_6.out)) (by decide) hg); have n1_ := Zm (Kd.S_after (ok := (fun _ => True)) (by (with_reducible repeat (first | apply Kd.S_alloc | apply Kd.S_drewN | apply Kd.S_drew)); exact Kd.S_mono HO_4.out (fun _ hk => ⟨trivial, hk⟩)) hg hat); have n2_ := Zm (hb); have n3_ := Zm (ho); clear HO_3; clear HO_4; clear HB; clear HO_6; have HO_3 := n0_; have HO_4 := n1_; have HB := n2_; have HO260 := n3_; clear n0_ n1_ n2_ n3_; clear ho hb hg hat)); try go_wp2_with (first | ((with_reducible refine gate_builtin (b := .append) (xs := #[.tmp 58, .tmp 60]) rfl ?_); at_builtin; refine Kd.R_append (Kd.int .i64) (w0 := w) w.heap.size rfl (.tmp 58) (.tmp 60) 22 3 (.int .i64 0) 8 rfl Try.underlying22 info3 rfl (by decide) (by omega) u6 x6_2 x8_3 [.int .i64 x8_3] (fun _ => True) (fun _ => False) rfl rfl ?aP (fun _ hk => hk.elim) ?aF ?aO ?aB ?aS ?aL ?_; (case aP => exact rfl); (case aB => exact (by repeat (first | (with_reducible first | exact HB.out | apply below_alloc | apply Zd | apply below_drew1) | exact HB.out))); (case aF => exact (fun _ _ => trivial)); (case aO => exact (by (with_reducible repeat (first | apply Kd.R_alloc | apply Kd.R_drewN | apply Kd.R_drew)); exact HO_6.out)); (case aS => exact (below_size (by repeat (first | (with_reducible first | exact HB.out | apply below_alloc | apply Zd | apply below_drew1) | exact HB.out)))); (case aL => have := LMc33.out; omega); intro v259 w35 ho hb hg hat; rw [← Ny258.out] at ho; have n0_ := Zm (Kd.R_over' (by (with_reducible repeat (first | apply Kd.R_alloc | apply Kd.R_drewN | apply Kd.R_drew)); exact HO_3.out) (Kd.R_typed (by (with_reducible repeat (first | apply Kd.R_alloc | apply Kd.R_drewN | apply Kd.R_drew)); exact HO_6.out)) (by decide) hg); have n1_ := Zm (Kd.S_after (ok := (fun _ => True)) (by (with_reducible repeat (first | apply Kd.S_alloc | apply Kd.S_drewN | apply Kd.S_drew)); exact Kd.S_mono HO_4.out (fun _ hk => ⟨trivial, hk⟩)) hg hat); have n2_ := Zm (hb); have n3_ := Zm (ho); clear HO_3; clear HO_4; clear HB; clear HO_6; have HO_3 := n0_; have HO_4 := n1_; have HB := n2_; have HO260 := n3_; clear n0_ n1_ n2_ n3_; clear ho hb hg hat)))
              go_roundg k3
              case measure => have := HK1.out; have := HK2.out; have := HK3.out; omega
              case rel => exact ⟨(x3_2), (y258), (wrap64 (x7_2 + 1)), (by first | rfl | (simp; done) | (simp [*]; done)), H', ⟨by have := HK1.out; have := HK2.out; have := HK3.out; omega⟩, ⟨by (with_reducible repeat (first | apply Kd.R_alloc | apply Kd.R_drewN | apply Kd.R_drew)); first | exact HO_3.out | exact Kd.R_mono HO_3.out (fun _ _ => trivial)⟩, ⟨by (with_reducible repeat (first | apply Kd.S_alloc | apply Kd.S_drewN | apply Kd.S_drew)); exact Kd.S_mono HO_4.out (fun _ hk => hk.2)⟩, ⟨by (with_reducible repeat (first | apply Kd.R_alloc | apply Kd.R_drewN | apply Kd.R_drew)); first | exact HO260.out | exact Kd.R_mono HO260.out (fun _ _ => trivial)⟩, ⟨by repeat (first | (with_reducible first | exact HB.out | apply below_alloc | apply Zd | apply below_drew1) | exact HB.out)⟩⟩
             ·rw [if_neg c33] at H
              exact absurd H (by simp)
        ·rw [if_neg c5] at H
         have c5b0 : decide (x7_2 < ((rd_L5 l0 x5_1).length : Int)) = false := decide_eq_false c5
         clear c5
         by_cases c36 : x4_1.length < 5864062014805
         ·rw [if_pos c36] at H
          have LMc36 := Zm c36
          clear c36
          obtain ⟨y233, hy233⟩ : ∃ y_ : List (List Int), y_ = (x4_1 ++ [x6_2]) := ⟨_, rfl⟩
          replace H : (r05_Numbers.l0 k2 l0 x3_2 y233 (wrap64 (x5_1 + 1))) = some r := by first | (rw [hy233]; with_reducible exact H) | (have H2_ := (Option.bind_some _ _).symm.trans H; rw [hy233]; with_reducible exact H2_) | (have H2_ := (Option.bind_some _ _).symm.trans H; with_reducible exact H2_) | with_reducible exact H | (rw [hy233]; exact H) | exact H
          have Ny233 := Zm hy233
          clear hy233
          have H' := Zm H
          clear H
          have p232 : 0 ≤ (x5_1 : Int) := Zo (by first | (with_reducible assumption) | assumption)
          have q232 : x5_1 < (l0.length : Int) := Zo (by first | (with_reducible assumption) | assumption)
          obtain ⟨ad232, A232_0, c232_0, e232, hx232_0, hl232_0, hi232_0⟩ := at_L5 HR0.out x5_1 p232 q232
          cases e232
          replace hx232_0 := (HB.out.cell (World.block_lt_of_cell? w _ hx232_0)).trans hx232_0
          have HR232_0 := Zm hi232_0
          have HC232_0 := Zm hl232_0
          clear hi232_0 hl232_0
          replace p232 := eq_true p232
          replace q232 := eq_true q232
          obtain ⟨Ao38, co38, eo38⟩ := Kd.R_slice HO_6.out
          subst eo38
          go_wp2_with (first | ((with_reducible refine gate_builtin (b := .append) (xs := #[.tmp 62, .tmp 64]) rfl ?_); at_builtin; refine Kd.S_append (Kd.slice 3 (Kd.int .i64)) (w0 := w) w.heap.size rfl (.tmp 62) (.tmp 64) 43 22 (.slice none 0 0) 24 rfl Try.underlying43 info22 rfl (by decide) (by omega) u4 x4_1 x6_2 [.slice Ao38 x6_2.length co38] (fun _ => True) (fun k_ => some k_ = (.slice Ao38 x6_2.length co38 : Value).ownBlock) rfl rfl ?aP (fun k_ hk_ => ((Kd.R_mono (ok' := fun k_ => ((fun _ => True)) k_ ∧ some k_ ≠ (u4 : Value).ownBlock) (Kd.R_apart' (HO_6.out) (Kd.S_typed HO_4.out) (by decide)) (fun k_ hk => ⟨trivial, hk.2⟩))).1 k_ hk_.symm) ?aF ?aO ?aB ?aS ?aL ?_; (case aP => exact Kd.M_row (Kd.R_mono (Kd.R_tight rfl (Kd.R_mono (ok' := fun k_ => ((fun _ => True)) k_ ∧ some k_ ≠ (u4 : Value).ownBlock) (Kd.R_apart' (HO_6.out) (Kd.S_typed HO_4.out) (by decide)) (fun k_ hk => ⟨trivial, hk.2⟩))) (fun _ h_ => h_))); (case aB => exact (by repeat (first | (with_reducible first | exact HB.out | apply below_alloc | apply Zd | apply below_drew1) | exact HB.out))); (case aF => exact (fun _ _ => trivial)); (case aO => exact (by (with_reducible repeat (first | apply Kd.S_alloc | apply Kd.S_drewN | apply Kd.S_drew)); exact Kd.S_mono HO_4.out (fun k_ hk => ⟨trivial, fun e_ => hk e_⟩))); (case aS => exact (below_size (by repeat (first | (with_reducible first | exact HB.out | apply below_alloc | apply Zd | apply below_drew1) | exact HB.out)))); (case aL => have := LMc36.out; omega); intro v234 w37 ho hb hg hat; rw [← Ny233.out] at ho; have n0_ := Zm (Kd.R_over' (by (with_reducible repeat (first | apply Kd.R_alloc | apply Kd.R_drewN | apply Kd.R_drew)); exact HO_3.out) (Kd.S_typed (by (with_reducible repeat (first | apply Kd.S_alloc | apply Kd.S_drewN | apply Kd.S_drew)); exact HO_4.out)) (by decide) hg); have n1_ := Zm (hb); have n2_ := Zm (ho); clear HO_3; clear HB; clear HO_4; clear HO_6; have HO_3 := n0_; have HB := n1_; have HO235 := n2_; clear n0_ n1_ n2_; clear ho hb hg hat))
          repeat (go_quiet (first | ((with_reducible refine gate_builtin (b := .append) (xs := #[.tmp 62, .tmp 64]) rfl ?_); at_builtin; refine Kd.S_append (Kd.slice 3 (Kd.int .i64)) (w0 := w) w.heap.size rfl (.tmp 62) (.tmp 64) 43 22 (.slice none 0 0) 24 rfl Try.underlying43 info22 rfl (by decide) (by omega) u4 x4_1 x6_2 [.slice Ao38 x6_2.length co38] (fun _ => True) (fun k_ => some k_ = (.slice Ao38 x6_2.length co38 : Value).ownBlock) rfl rfl ?aP (fun k_ hk_ => ((Kd.R_mono (ok' := fun k_ => ((fun _ => True)) k_ ∧ some k_ ≠ (u4 : Value).ownBlock) (Kd.R_apart' (HO_6.out) (Kd.S_typed HO_4.out) (by decide)) (fun k_ hk => ⟨trivial, hk.2⟩))).1 k_ hk_.symm) ?aF ?aO ?aB ?aS ?aL ?_; (case aP => exact Kd.M_row (Kd.R_mono (Kd.R_tight rfl (Kd.R_mono (ok' := fun k_ => ((fun _ => True)) k_ ∧ some k_ ≠ (u4 : Value).ownBlock) (Kd.R_apart' (HO_6.out) (Kd.S_typed HO_4.out) (by decide)) (fun k_ hk => ⟨trivial, hk.2⟩))) (fun _ h_ => h_))); (case aB => exact (by repeat (first | (with_reducible first | exact HB.out | apply below_alloc | apply Zd | apply below_drew1) | exact HB.out))); (case aF => exact (fun _ _ => trivial)); (case aO => exact (by (with_reducible repeat (first | apply Kd.S_alloc | apply Kd.S_drewN | apply Kd.S_drew)); exact Kd.S_mono HO_4.out (fun k_ hk => ⟨trivial, fun e_ => hk e_⟩))); (case aS => exact (below_size (by repeat (first | (with_reducible first | exact HB.out | apply below_alloc | apply Zd | apply below_drew1) | exact HB.out)))); (case aL => have := LMc36.out; omega); intro v234 w37 ho hb hg hat; rw [← Ny233.out] at ho; have n0_ := Zm (Kd.R_over' (by (with_reducible repeat (first | apply Kd.R_alloc | apply Kd.R_drewN | apply Kd.R_drew)); exact HO_3.out) (Kd.S_typed (by (with_reducible repeat (first | apply Kd.S_alloc | apply Kd.S_drewN | apply Kd.S_drew)); exact HO_4.out)) (by decide) hg); have n1_ := Zm (hb); have n2_ := Zm (ho); clear HO_3; clear HB; clear HO_4; clear HO_6; have HO_3 := n0_; have HB := n1_; have HO235 := n2_; clear n0_ n1_ n2_; clear ho hb hg hat)); try go_wp2_with (first | ((with_reducible refine gate_builtin (b := .append) (xs := #[.tmp 62, .tmp 64]) rfl ?_); at_builtin; refine Kd.S_append (Kd.slice 3 (Kd.int .i64)) (w0 := w) w.heap.size rfl (.tmp 62) (.tmp 64) 43 22 (.slice none 0 0) 24 rfl Try.underlying43 info22 rfl (by decide) (by omega) u4 x4_1 x6_2 [.slice Ao38 x6_2.length co38] (fun _ => True) (fun k_ => some k_ = (.slice Ao38 x6_2.length co38 : Value).ownBlock) rfl rfl ?aP (fun k_ hk_ => ((Kd.R_mono (ok' := fun k_ => ((fun _ => True)) k_ ∧ some k_ ≠ (u4 : Value).ownBlock) (Kd.R_apart' (HO_6.out) (Kd.S_typed HO_4.out) (by decide)) (fun k_ hk => ⟨trivial, hk.2⟩))).1 k_ hk_.symm) ?aF ?aO ?aB ?aS ?aL ?_; (case aP => exact Kd.M_row (Kd.R_mono (Kd.R_tight rfl (Kd.R_mono (ok' := fun k_ => ((fun _ => True)) k_ ∧ some k_ ≠ (u4 : Value).ownBlock) (Kd.R_apart' (HO_6.out) (Kd.S_typed HO_4.out) (by decide)) (fun k_ hk => ⟨trivial, hk.2⟩))) (fun _ h_ => h_))); (case aB => exact (by repeat (first | (with_reducible first | exact HB.out | apply below_alloc | apply Zd | apply below_drew1) | exact HB.out))); (case aF => exact (fun _ _ => trivial)); (case aO => exact (by (with_reducible repeat (first | apply Kd.S_alloc | apply Kd.S_drewN | apply Kd.S_drew)); exact Kd.S_mono HO_4.out (fun k_ hk => ⟨trivial, fun e_ => hk e_⟩))); (case aS => exact (below_size (by repeat (first | (with_reducible first | exact HB.out | apply below_alloc | apply Zd | apply below_drew1) | exact HB.out)))); (case aL => have := LMc36.out; omega); intro v234 w37 ho hb hg hat; rw [← Ny233.out] at ho; have n0_ := Zm (Kd.R_over' (by (with_reducible repeat (first | apply Kd.R_alloc | apply Kd.R_drewN | apply Kd.R_drew)); exact HO_3.out) (Kd.S_typed (by (with_reducible repeat (first | apply Kd.S_alloc | apply Kd.S_drewN | apply Kd.S_drew)); exact HO_4.out)) (by decide) hg); have n1_ := Zm (hb); have n2_ := Zm (ho); clear HO_3; clear HB; clear HO_4; clear HO_6; have HO_3 := n0_; have HB := n1_; have HO235 := n2_; clear n0_ n1_ n2_; clear ho hb hg hat)))
          go_roundg k2
          case measure => have := HK1.out; have := HK2.out; omega
          case rel => exact ⟨(x3_2), (y233), (wrap64 (x5_1 + 1)), (by first | rfl | (simp; done) | (simp [*]; done)), H', ⟨by have := HK1.out; have := HK2.out; omega⟩, ⟨by (with_reducible repeat (first | apply Kd.R_alloc | apply Kd.R_drewN | apply Kd.R_drew)); first | exact HO_3.out | exact Kd.R_mono HO_3.out (fun _ _ => trivial)⟩, ⟨by (with_reducible repeat (first | apply Kd.S_alloc | apply Kd.S_drewN | apply Kd.S_drew)); exact HO235.out⟩, ⟨by repeat (first | (with_reducible first | exact HB.out | apply below_alloc | apply Zd | apply below_drew1) | exact HB.out)⟩⟩
         ·rw [if_neg c36] at H
          exact absurd H (by simp)
       ·rw [if_neg c4] at H
        exact absurd H (by simp)
      ·rw [if_neg c3] at H
       exact absurd H (by simp)
   ·rw [if_neg c2] at H
    have c2b0 : decide (x5_1 < (l0.length : Int)) = false := decide_eq_false c2
    clear c2
    obtain rfl := Option.some.inj H
    go_wp2
    repeat (go_quiet (fail); try go_wp2)
    go_ret
    exact ⟨_, by first | rfl | (simp [errW_none, errW_some] <;> rfl) | (simp [*, errW_none, errW_some] <;> rfl), by (with_reducible repeat (first | apply Kd.S_alloc | apply Kd.S_drewN | apply Kd.S_drew)); exact HO_4.out, by repeat (first | (with_reducible first | exact HB.out | apply below_alloc | apply Zd | apply below_drew1) | exact HB.out)⟩
end Go.Proofs.Ytphghffdaceaoaa.PHunk
