/- Laid by a program of this session out of the seat's translation. -/
import Derived.Test.YthgmnnlnggalgaaPLinesx0
import Derived.Test.YthgmnnlnggalgaaPLinesx1
import Derived.Test.YthgmnnlnggalgaaPLinesx2
namespace Go.Proofs.Ythgmnnlnggalgaa.PLines
open Go.RowKit Go.Proofs.YthgmnnlnggalgaaW.PrintWords Go.Proofs.YthgmnnlnggalgaaW.PrintLast Go.Proofs.YthgmnnlnggalgaaW.PrintMore
attribute [local go_sem] max2_int min2_int max_two min_two max_three min_three max_four min_four   -- for this text's walks alone
set_option linter.unusedVariables false
set_option linter.unusedSimpArgs false

/-! ### concordatlaw01_LinesParts: function 7 -/
def concordatlaw01_LinesParts.j0 : Nat → ByteArray → ByteArray → Bool → Option (Bool)
  | 0, _, _, _ => none
  | k + 1, x0, x1, x18 => if x18 = true then (some true) else ((lines_Whole.f x0).bind fun t178 => ((lines_Split.f t178).bind fun t179 => (if ([] : List ByteArray).length + t179.length < 8796093022208 then ((some (([] : List ByteArray) ++ t179 : List ByteArray)).bind fun y182 => ((lines_Split.f x1).bind fun t185 => (if y182.length + t185.length < 8796093022208 then (if t178.size + x1.size ≤ 9223372036854775807 then ((lines_Split.f (t178 ++ x1)).bind fun t191 => ((concordatref01_Same.f k t191 (y182 ++ t185)).bind fun t194 => (if t194 = true then ((lines_Count.f (t178 ++ x1)).bind fun t195 => ((lines_Count.f t178).bind fun t196 => ((lines_Count.f x1).bind fun t197 => (some (t195 == (wrap64 (t196 + t197))))))) else (none)))) else (none)) else (none)))) else (none))))
def concordatlaw01_LinesParts.f (k : Nat) (a0 : ByteArray) (a1 : ByteArray) : Option (Bool) := (concordatlaw01_awake.f k).bind fun t177 => (if t177 = true then (if (a0.size : Int) > 3000 then (concordatlaw01_LinesParts.j0 k a0 a1 true) else (concordatlaw01_LinesParts.j0 k a0 a1 (decide ((a1.size : Int) > 3000)))) else (none))
theorem concordatlaw01_LinesParts.mono_l : ∀ k, (∀ y0 y1 y2, LeO (concordatlaw01_LinesParts.j0 k y0 y1 y2) (concordatlaw01_LinesParts.j0 (k + 1) y0 y1 y2))
  | 0 => fun _ _ _ r h => by simp [concordatlaw01_LinesParts.j0] at h
  | k + 1 => by
    have ih0 := concordatlaw01_LinesParts.mono_l k
    · intro y0 y1 y2
      unfold concordatlaw01_LinesParts.j0
      repeat' first
      | (with_reducible exact ih0 _ _ _)
      | (with_reducible exact concordatlaw01_awake.mono _)
      | (with_reducible exact concordatref01_Same.mono _ _ _)
      | (with_reducible exact LeO.refl _)
      | (with_reducible exact LeO.none _)
      | (with_reducible refine LeO.ite ?_ ?_)
      | (with_reducible refine LeO.bind ?_ (fun _ => ?_))
      | exact ih0 _ _ _
      | exact concordatlaw01_awake.mono _
      | exact concordatref01_Same.mono _ _ _
      | exact LeO.none _
      | refine LeO.ite ?_ ?_
      | refine LeO.bind ?_ (fun _ => ?_)
theorem concordatlaw01_LinesParts.mono : ∀ a0 a1 k, LeO (concordatlaw01_LinesParts.f k a0 a1) (concordatlaw01_LinesParts.f (k + 1) a0 a1) := by
  intro a0 a1 k
  have ih0 := concordatlaw01_LinesParts.mono_l k
  unfold concordatlaw01_LinesParts.f
  repeat' first
      | (with_reducible exact ih0 _ _ _)
      | (with_reducible exact concordatlaw01_awake.mono _)
      | (with_reducible exact concordatref01_Same.mono _ _ _)
      | (with_reducible exact LeO.refl _)
      | (with_reducible exact LeO.none _)
      | (with_reducible refine LeO.ite ?_ ?_)
      | (with_reducible refine LeO.bind ?_ (fun _ => ?_))
      | exact ih0 _ _ _
      | exact concordatlaw01_awake.mono _
      | exact concordatref01_Same.mono _ _ _
      | exact LeO.none _
      | refine LeO.ite ?_ ?_
      | refine LeO.bind ?_ (fun _ => ?_)
set_option maxHeartbeats 8000000 in
set_option maxRecDepth 100000 in
theorem concordatlaw01_LinesParts.calls (k : Nat) (a0 : ByteArray) (a1 : ByteArray) (r : Bool) (w : World) (h : concordatlaw01_LinesParts.f k a0 a1 = some r) :
    Calls Try.prog 7 #[.string a0, .string a1] w fun e w' => e = .returned (.bool r) ∧ Below w.heap.size w w' := by
  have HB := Aside0.mk (Below.refl w.heap.size w)
  have H : ((concordatlaw01_awake.f k).bind fun t177 => (if t177 = true then (if (a0.size : Int) > 3000 then (concordatlaw01_LinesParts.j0 k a0 a1 true) else (concordatlaw01_LinesParts.j0 k a0 a1 (decide ((a1.size : Int) > 3000)))) else (none))) = some r := h
  clear h
  replace H := Option.bind_eq_some_iff.mp H
  obtain ⟨t177, A30, H⟩ := H
  replace H : (if t177 = true then (if (a0.size : Int) > 3000 then (concordatlaw01_LinesParts.j0 k a0 a1 true) else (concordatlaw01_LinesParts.j0 k a0 a1 (decide ((a1.size : Int) > 3000)))) else (none)) = some r := H
  have A3 := Aside0.mk A30
  clear A30
  by_cases c4 : t177 = true
  · subst c4
    have H1 : (if (a0.size : Int) > 3000 then (concordatlaw01_LinesParts.j0 k a0 a1 true) else (concordatlaw01_LinesParts.j0 k a0 a1 (decide ((a1.size : Int) > 3000)))) = some r := by rw [if_pos rfl] at H; exact H
    clear H
    have H := H1
    clear H1
    have HC5 := Aside0.mk H
    clear H
    go_enter Try.func7, Try.ntmps7
    go_upto_region 4 with (first | ((with_reducible refine gate_callee (f := 8) rfl ?_); refine goesL_ (some 8) rfl rfl Try.func8 (by kernel_rfl) rfl #[] rfl (by (try simp only [List.map_toArray, List.map_cons, List.map_nil]); first | done | rfl | (simp only [List.length_drop, List.length_take]; rfl)) ?_; (with_reducible refine (concordatlaw01_awake.calls k  true _ A3.out).mono ?_); rintro e w6 ⟨rfl, hb⟩; refine ⟨_, rfl, ?_⟩; have n0_ := Aside0.mk (below_step (by repeat (first | (with_reducible first | exact HB.out | apply below_alloc | apply pw_below_drewN | apply below_drew1) | exact HB.out)) hb); clear HB; have HB := n0_; clear n0_; (try clear hb); (try clear hb2); (try clear hk); (try clear hi)))
    (try simp only [Act.put, List.setIfInBounds_toArray, List.set_cons_zero, List.set_cons_succ])
    go_cut [18] (fun v18 wc => ∃ (kq : Nat) (x18_4 : Bool), v18 = .bool x18_4 ∧ Aside0 (concordatlaw01_LinesParts.j0 kq a0 a1 x18_4 = some r) ∧ Aside0 (kq ≤ k) ∧ Aside0 (Below w.heap.size w wc))
    case first =>
      have H := HC5.out
      clear HC5
      by_cases c7 : (a0.size : Int) > 3000
      · rw [if_pos c7] at H
        have c7b0 : decide (3000 < (a0.size : Int)) = true := decide_eq_true c7
        have c7b1 : decide (3000 < a0.size) = true := decide_eq_true (by omega)
        clear c7
        (first | rw [c7b0] | (simp only [i64_w, i32_w]; rw [c7b0]) | skip)
        have H' := Aside0.mk H
        clear H
        go_wp2
        go_meet
        case rel => exact ⟨_, (true), (by first | rfl | (simp; done) | (simp [*]; done)), H', ⟨by first | omega | exact Nat.le_refl _⟩, ⟨by repeat (first | (with_reducible first | exact HB.out | apply below_alloc | apply pw_below_drewN | apply below_drew1) | exact HB.out)⟩⟩
      · rw [if_neg c7] at H
        have c7b0 : decide (3000 < (a0.size : Int)) = false := decide_eq_false c7
        have c7b1 : decide (3000 < a0.size) = false := decide_eq_false (by omega)
        clear c7
        (first | rw [c7b0] | (simp only [i64_w, i32_w]; rw [c7b0]) | skip)
        have H' := Aside0.mk H
        clear H
        go_wp2
        go_meet
        case rel => exact ⟨_, (decide ((a1.size : Int) > 3000)), (by first | rfl | (simp; done) | (simp [*]; done)), H', ⟨by first | omega | exact Nat.le_refl _⟩, ⟨by repeat (first | (with_reducible first | exact HB.out | apply below_alloc | apply pw_below_drewN | apply below_drew1) | exact HB.out)⟩⟩
    case rest =>
      clear HC5
      try clear p2
      try clear c4
      try clear c7
      try clear c7b0
      try clear c7b1
      obtain ⟨kq, x18_4, rfl, HA, HJ4, HB⟩ := hcut
      cases kq with
      | zero => exact absurd HA.out (by simp [concordatlaw01_LinesParts.j0])
      | succ kj4 =>
        have H := HA.out
        clear HA
        simp only [concordatlaw01_LinesParts.j0] at H
        by_cases c8 : x18_4 = true
        · subst c8
          have H1 : (some true) = some r := by rw [if_pos rfl] at H; exact H
          clear H
          have H := H1
          clear H1
          obtain rfl := Option.some.inj H
          go_wp2
          go_ret
          exact ⟨by first | rfl | (simp [errW_none, errW_some] <;> rfl) | (simp [*, errW_none, errW_some] <;> rfl), by repeat (first | (with_reducible first | exact HB.out | apply below_alloc | apply pw_below_drewN | apply below_drew1) | exact HB.out)⟩
        · replace c8 := Bool.eq_false_iff.mpr c8
          subst c8
          have H1 : ((lines_Whole.f a0).bind fun t178 => ((lines_Split.f t178).bind fun t179 => (if ([] : List ByteArray).length + t179.length < 8796093022208 then ((some (([] : List ByteArray) ++ t179 : List ByteArray)).bind fun y182 => ((lines_Split.f a1).bind fun t185 => (if y182.length + t185.length < 8796093022208 then (if t178.size + a1.size ≤ 9223372036854775807 then ((lines_Split.f (t178 ++ a1)).bind fun t191 => ((concordatref01_Same.f kj4 t191 (y182 ++ t185)).bind fun t194 => (if t194 = true then ((lines_Count.f (t178 ++ a1)).bind fun t195 => ((lines_Count.f t178).bind fun t196 => ((lines_Count.f a1).bind fun t197 => (some (t195 == (wrap64 (t196 + t197))))))) else (none)))) else (none)) else (none)))) else (none)))) = some r := by rw [if_neg (show ¬ (false = true) by decide)] at H; exact H
          clear H
          have H := H1
          clear H1
          replace H := Option.bind_eq_some_iff.mp H
          obtain ⟨t178, A90, H⟩ := H
          replace H : ((lines_Split.f t178).bind fun t179 => (if ([] : List ByteArray).length + t179.length < 8796093022208 then ((some (([] : List ByteArray) ++ t179 : List ByteArray)).bind fun y182 => ((lines_Split.f a1).bind fun t185 => (if y182.length + t185.length < 8796093022208 then (if t178.size + a1.size ≤ 9223372036854775807 then ((lines_Split.f (t178 ++ a1)).bind fun t191 => ((concordatref01_Same.f kj4 t191 (y182 ++ t185)).bind fun t194 => (if t194 = true then ((lines_Count.f (t178 ++ a1)).bind fun t195 => ((lines_Count.f t178).bind fun t196 => ((lines_Count.f a1).bind fun t197 => (some (t195 == (wrap64 (t196 + t197))))))) else (none)))) else (none)) else (none)))) else (none))) = some r := H
          have A9 := Aside0.mk A90
          clear A90
          replace H := Option.bind_eq_some_iff.mp H
          obtain ⟨t179, A100, H⟩ := H
          replace H : (if ([] : List ByteArray).length + t179.length < 8796093022208 then ((some (([] : List ByteArray) ++ t179 : List ByteArray)).bind fun y182 => ((lines_Split.f a1).bind fun t185 => (if y182.length + t185.length < 8796093022208 then (if t178.size + a1.size ≤ 9223372036854775807 then ((lines_Split.f (t178 ++ a1)).bind fun t191 => ((concordatref01_Same.f kj4 t191 (y182 ++ t185)).bind fun t194 => (if t194 = true then ((lines_Count.f (t178 ++ a1)).bind fun t195 => ((lines_Count.f t178).bind fun t196 => ((lines_Count.f a1).bind fun t197 => (some (t195 == (wrap64 (t196 + t197))))))) else (none)))) else (none)) else (none)))) else (none)) = some r := H
          have A10 := Aside0.mk A100
          clear A100
          by_cases c11 : ([] : List ByteArray).length + t179.length < 8796093022208
          · rw [if_pos c11] at H
            have LMc11 := Aside0.mk c11
            clear c11
            obtain ⟨y182, hy182⟩ : ∃ y_ : List ByteArray, y_ = (([] : List ByteArray) ++ t179) := ⟨_, rfl⟩
            replace H : ((lines_Split.f a1).bind fun t185 => (if y182.length + t185.length < 8796093022208 then (if t178.size + a1.size ≤ 9223372036854775807 then ((lines_Split.f (t178 ++ a1)).bind fun t191 => ((concordatref01_Same.f kj4 t191 (y182 ++ t185)).bind fun t194 => (if t194 = true then ((lines_Count.f (t178 ++ a1)).bind fun t195 => ((lines_Count.f t178).bind fun t196 => ((lines_Count.f a1).bind fun t197 => (some (t195 == (wrap64 (t196 + t197))))))) else (none)))) else (none)) else (none))) = some r := by first | (rw [hy182]; with_reducible exact H) | (have H2_ := (Option.bind_some _ _).symm.trans H; rw [hy182]; with_reducible exact H2_) | (have H2_ := (Option.bind_some _ _).symm.trans H; with_reducible exact H2_) | with_reducible exact H | (rw [hy182]; exact H) | exact H
            have Ny182 := Aside0.mk hy182
            clear hy182
            replace H := Option.bind_eq_some_iff.mp H
            obtain ⟨t185, A120, H⟩ := H
            replace H : (if y182.length + t185.length < 8796093022208 then (if t178.size + a1.size ≤ 9223372036854775807 then ((lines_Split.f (t178 ++ a1)).bind fun t191 => ((concordatref01_Same.f kj4 t191 (y182 ++ t185)).bind fun t194 => (if t194 = true then ((lines_Count.f (t178 ++ a1)).bind fun t195 => ((lines_Count.f t178).bind fun t196 => ((lines_Count.f a1).bind fun t197 => (some (t195 == (wrap64 (t196 + t197))))))) else (none)))) else (none)) else (none)) = some r := H
            have A12 := Aside0.mk A120
            clear A120
            by_cases c13 : y182.length + t185.length < 8796093022208
            · rw [if_pos c13] at H
              have LMc13 := Aside0.mk c13
              clear c13
              obtain ⟨y188, hy188⟩ : ∃ y_ : List ByteArray, y_ = (y182 ++ t185) := ⟨_, rfl⟩
              replace H : (if t178.size + a1.size ≤ 9223372036854775807 then ((lines_Split.f (t178 ++ a1)).bind fun t191 => ((concordatref01_Same.f kj4 t191 y188).bind fun t194 => (if t194 = true then ((lines_Count.f (t178 ++ a1)).bind fun t195 => ((lines_Count.f t178).bind fun t196 => ((lines_Count.f a1).bind fun t197 => (some (t195 == (wrap64 (t196 + t197))))))) else (none)))) else (none)) = some r := by first | (rw [hy188]; with_reducible exact H) | (have H2_ := (Option.bind_some _ _).symm.trans H; rw [hy188]; with_reducible exact H2_) | (have H2_ := (Option.bind_some _ _).symm.trans H; with_reducible exact H2_) | with_reducible exact H | (rw [hy188]; exact H) | exact H
              have Ny188 := Aside0.mk hy188
              clear hy188
              by_cases c14 : t178.size + a1.size ≤ 9223372036854775807
              · rw [if_pos c14] at H
                have c14b0 := eq_true c14
                have c14b1 : decide (t178.size + a1.size ≤ 9223372036854775807) = true := decide_eq_true c14
                try have c14b2 : (9223372036854775807 < t178.size + a1.size) = False := eq_false (Nat.not_lt.2 c14)
                replace H := Option.bind_eq_some_iff.mp H
                obtain ⟨t191, A150, H⟩ := H
                replace H : ((concordatref01_Same.f kj4 t191 y188).bind fun t194 => (if t194 = true then ((lines_Count.f (t178 ++ a1)).bind fun t195 => ((lines_Count.f t178).bind fun t196 => ((lines_Count.f a1).bind fun t197 => (some (t195 == (wrap64 (t196 + t197))))))) else (none))) = some r := H
                have A15 := Aside0.mk A150
                clear A150
                replace H := Option.bind_eq_some_iff.mp H
                obtain ⟨t194, A160, H⟩ := H
                replace H : (if t194 = true then ((lines_Count.f (t178 ++ a1)).bind fun t195 => ((lines_Count.f t178).bind fun t196 => ((lines_Count.f a1).bind fun t197 => (some (t195 == (wrap64 (t196 + t197))))))) else (none)) = some r := H
                have A16 := Aside0.mk A160
                clear A160
                by_cases c17 : t194 = true
                · subst c17
                  have H1 : ((lines_Count.f (t178 ++ a1)).bind fun t195 => ((lines_Count.f t178).bind fun t196 => ((lines_Count.f a1).bind fun t197 => (some (t195 == (wrap64 (t196 + t197))))))) = some r := by rw [if_pos rfl] at H; exact H
                  clear H
                  have H := H1
                  clear H1
                  replace H := Option.bind_eq_some_iff.mp H
                  obtain ⟨t195, A180, H⟩ := H
                  replace H : ((lines_Count.f t178).bind fun t196 => ((lines_Count.f a1).bind fun t197 => (some (t195 == (wrap64 (t196 + t197)))))) = some r := H
                  have A18 := Aside0.mk A180
                  clear A180
                  replace H := Option.bind_eq_some_iff.mp H
                  obtain ⟨t196, A190, H⟩ := H
                  replace H : ((lines_Count.f a1).bind fun t197 => (some (t195 == (wrap64 (t196 + t197))))) = some r := H
                  have A19 := Aside0.mk A190
                  clear A190
                  replace H := Option.bind_eq_some_iff.mp H
                  obtain ⟨t197, A200, H⟩ := H
                  replace H : (some (t195 == (wrap64 (t196 + t197)))) = some r := H
                  have A20 := Aside0.mk A200
                  clear A200
                  obtain rfl := Option.some.inj H
                  go_wp2_with (first | ((with_reducible refine gate_callee (f := 15) rfl ?_); refine goesL_ (some 20) rfl rfl Try.func15 (by kernel_rfl) rfl #[.string a0] rfl (by (try simp only [List.map_toArray, List.map_cons, List.map_nil]); first | done | rfl | (simp only [List.length_drop, List.length_take]; rfl)) ?_; (with_reducible refine (lines_Whole.calls a0 t178 _ A9.out).mono ?_); rintro e w' ⟨rfl, ⟨nd, rfl⟩⟩; refine ⟨_, rfl, ?_⟩) | ((with_reducible refine gate_callee (f := 11) rfl ?_); refine goesL_ (some 23) rfl rfl Try.func11 (by kernel_rfl) rfl #[.string t178] rfl (by (try simp only [List.map_toArray, List.map_cons, List.map_nil]); first | done | rfl | (simp only [List.length_drop, List.length_take]; rfl)) ?_; (with_reducible refine (lines_Split.calls t178 t179 _ A10.out).mono ?_); rintro e w21 ⟨v180, rfl, ho0, hb⟩; refine ⟨_, rfl, ?_⟩; have n0_ := Aside0.mk (Kd.R_lower ho0 (below_size (by repeat (first | (with_reducible first | exact HB.out | apply below_alloc | apply pw_below_drewN | apply below_drew1) | exact HB.out)))); have n1_ := Aside0.mk (below_step (by repeat (first | (with_reducible first | exact HB.out | apply below_alloc | apply pw_below_drewN | apply below_drew1) | exact HB.out)) hb); clear HB; have HO181 := n0_; have HB := n1_; clear n0_ n1_; (try clear hb); (try clear hb2); (try clear hk); (try clear hi); (try clear ho0); obtain ⟨Ao23, co23, eo23⟩ := Kd.R_slice HO181.out; subst eo23) | ((with_reducible refine gate_builtin (b := .append) (xs := #[.tmp 21, .tmp 23]) rfl ?_); (try (refine gate_guard (by rfl) ?_; dsimp only)); at_builtin; refine Kd.R_append_rows Kd.string (w0 := w) w.heap.size rfl (.tmp 21) (.tmp 23) 22 9 (.string ⟨#[]⟩) 16 rfl Try.underlying22 info9 rfl (by decide) (by omega) (.slice none 0 0) ([] : List ByteArray) t179 _ _ _ (fun k_ => some k_ ≠ (.slice Ao23 t179.length co23 : Value).ownBlock) (fun _ => False) rfl rfl ?aO ?aR (fun _ _ h => h) (fun _ h => h.elim) ?aF ?aB ?aS ?aL ?_; (case aR => repeat (first | exact (Kd.R_reads' HO181.out).2.2 | (with_reducible refine Kd.C_alloc ?_ _) | (with_reducible refine Kd.C_drewN ?_ _) | (with_reducible refine Kd.C_drew ?_))); (case aB => exact (by repeat (first | (with_reducible first | exact HB.out | apply below_alloc | apply pw_below_drewN | apply below_drew1) | exact HB.out))); (case aF => exact (fun k_ hk => Kd.fresh' (Kd.R_lt (by (with_reducible repeat (first | apply Kd.R_alloc | apply Kd.R_drewN | apply Kd.R_drew)); exact HO181.out)) k_ hk)); (case aO => exact ((Kd.R_nil _ _ _ _ (fun k_ => some k_ ≠ (.slice Ao23 t179.length co23 : Value).ownBlock)))); (case aS => exact (below_size (by repeat (first | (with_reducible first | exact HB.out | apply below_alloc | apply pw_below_drewN | apply below_drew1) | exact HB.out)))); (case aL => have := LMc11.out; omega); intro v183 w22 ho hb hg hat; rw [← Ny182.out] at ho; have n0_ := Aside0.mk (Kd.R_after (Kd.R_apart_nil (by (with_reducible repeat (first | apply Kd.R_alloc | apply Kd.R_drewN | apply Kd.R_drew)); exact HO181.out)) hg hat); have n1_ := Aside0.mk (hb); have n2_ := Aside0.mk (ho); clear HO181; clear HB; have HO181 := n0_; have HB := n1_; have HO184 := n2_; clear n0_ n1_ n2_; clear ho hb hg hat) | ((with_reducible refine gate_callee (f := 11) rfl ?_); refine goesL_ (some 27) rfl rfl Try.func11 (by kernel_rfl) rfl #[.string a1] rfl (by (try simp only [List.map_toArray, List.map_cons, List.map_nil]); first | done | rfl | (simp only [List.length_drop, List.length_take]; rfl)) ?_; (with_reducible refine (lines_Split.calls a1 t185 _ A12.out).mono ?_); rintro e w24 ⟨v186, rfl, ho0, hb⟩; refine ⟨_, rfl, ?_⟩; have n0_ := Aside0.mk (Kd.R_elder' (by (with_reducible repeat (first | apply Kd.R_alloc | apply Kd.R_drewN | apply Kd.R_drew)); exact HO181.out) (Kd.R_base ho0) hb); have n1_ := Aside0.mk (Kd.R_elder' (by (with_reducible repeat (first | apply Kd.R_alloc | apply Kd.R_drewN | apply Kd.R_drew)); exact HO184.out) (Kd.R_base ho0) hb); have n2_ := Aside0.mk (Kd.R_lower (Kd.R_new' (Kd.R_new' ho0 (Kd.R_lt (by (with_reducible repeat (first | apply Kd.R_alloc | apply Kd.R_drewN | apply Kd.R_drew)); exact HO181.out))) (Kd.R_lt (by (with_reducible repeat (first | apply Kd.R_alloc | apply Kd.R_drewN | apply Kd.R_drew)); exact HO184.out))) (below_size (by repeat (first | (with_reducible first | exact HB.out | apply below_alloc | apply pw_below_drewN | apply below_drew1) | exact HB.out)))); have n3_ := Aside0.mk (below_step (by repeat (first | (with_reducible first | exact HB.out | apply below_alloc | apply pw_below_drewN | apply below_drew1) | exact HB.out)) hb); clear HO181; clear HO184; clear HB; have HO181 := n0_; have HO184 := n1_; have HO187 := n2_; have HB := n3_; clear n0_ n1_ n2_ n3_; (try clear hb); (try clear hb2); (try clear hk); (try clear hi); (try clear ho0); obtain ⟨Ao26, co26, eo26⟩ := Kd.R_slice HO187.out; subst eo26) | ((with_reducible refine gate_builtin (b := .append) (xs := #[.tmp 25, .tmp 27]) rfl ?_); (try (refine gate_guard (by rfl) ?_; dsimp only)); at_builtin; refine Kd.R_append_rows Kd.string (w0 := w) w.heap.size rfl (.tmp 25) (.tmp 27) 22 9 (.string ⟨#[]⟩) 16 rfl Try.underlying22 info9 rfl (by decide) (by omega) v183 y182 t185 _ _ _ (fun k_ => some k_ ≠ (.slice Ao23 t179.length co23 : Value).ownBlock ∧ some k_ ≠ (.slice Ao26 t185.length co26 : Value).ownBlock) (fun _ => False) rfl rfl ?aO ?aR (fun _ _ h => h) (fun _ h => h.elim) ?aF ?aB ?aS ?aL ?_; (case aR => repeat (first | exact (Kd.R_reads' HO187.out).2.2 | (with_reducible refine Kd.C_alloc ?_ _) | (with_reducible refine Kd.C_drewN ?_ _) | (with_reducible refine Kd.C_drew ?_))); (case aB => exact (by repeat (first | (with_reducible first | exact HB.out | apply below_alloc | apply pw_below_drewN | apply below_drew1) | exact HB.out))); (case aF => exact (fun k_ hk => ⟨Kd.fresh' (Kd.R_lt (by (with_reducible repeat (first | apply Kd.R_alloc | apply Kd.R_drewN | apply Kd.R_drew)); exact HO181.out)) k_ hk, Kd.fresh' (Kd.R_lt (by (with_reducible repeat (first | apply Kd.R_alloc | apply Kd.R_drewN | apply Kd.R_drew)); exact HO187.out)) k_ hk⟩)); (case aO => exact (by (with_reducible repeat (first | apply Kd.R_alloc | apply Kd.R_drewN | apply Kd.R_drew)); exact HO184.out)); (case aS => exact (below_size (by repeat (first | (with_reducible first | exact HB.out | apply below_alloc | apply pw_below_drewN | apply below_drew1) | exact HB.out)))); (case aL => have := LMc13.out; omega); intro v189 w25 ho hb hg hat; rw [← Ny188.out] at ho; have n0_ := Aside0.mk (Kd.R_after (ok := (fun k_ => some k_ ≠ (.slice Ao26 t185.length co26 : Value).ownBlock)) (by (with_reducible repeat (first | apply Kd.R_alloc | apply Kd.R_drewN | apply Kd.R_drew)); exact Kd.R_mono HO181.out (fun _ hk => ⟨hk.2, hk.1.2⟩)) hg hat); have n1_ := Aside0.mk (Kd.R_after (ok := (fun k_ => some k_ ≠ (.slice Ao23 t179.length co23 : Value).ownBlock)) (by (with_reducible repeat (first | apply Kd.R_alloc | apply Kd.R_drewN | apply Kd.R_drew)); exact Kd.R_mono HO187.out (fun _ hk => ⟨hk.1.2, hk.2⟩)) hg hat); have n2_ := Aside0.mk (hb); have n3_ := Aside0.mk (ho); clear HO181; clear HO187; clear HB; clear HO184; have HO181 := n0_; have HO187 := n1_; have HB := n2_; have HO190 := n3_; clear n0_ n1_ n2_ n3_; clear ho hb hg hat) | ((with_reducible refine gate_callee (f := 11) rfl ?_); refine goesL_ (some 32) rfl rfl Try.func11 (by kernel_rfl) rfl #[.string (t178 ++ a1)] rfl (by (try simp only [List.map_toArray, List.map_cons, List.map_nil]); first | done | rfl | (simp only [List.length_drop, List.length_take]; rfl)) ?_; (with_reducible refine (lines_Split.calls (t178 ++ a1) t191 _ A15.out).mono ?_); rintro e w27 ⟨v192, rfl, ho0, hb⟩; refine ⟨_, rfl, ?_⟩; have n0_ := Aside0.mk (Kd.R_elder' (by (with_reducible repeat (first | apply Kd.R_alloc | apply Kd.R_drewN | apply Kd.R_drew)); exact HO181.out) (Kd.R_base ho0) hb); have n1_ := Aside0.mk (Kd.R_elder' (by (with_reducible repeat (first | apply Kd.R_alloc | apply Kd.R_drewN | apply Kd.R_drew)); exact HO187.out) (Kd.R_base ho0) hb); have n2_ := Aside0.mk (Kd.R_elder' (by (with_reducible repeat (first | apply Kd.R_alloc | apply Kd.R_drewN | apply Kd.R_drew)); exact HO190.out) (Kd.R_base ho0) hb); have n3_ := Aside0.mk (Kd.R_lower (Kd.R_new' (Kd.R_new' (Kd.R_new' ho0 (Kd.R_lt (by (with_reducible repeat (first | apply Kd.R_alloc | apply Kd.R_drewN | apply Kd.R_drew)); exact HO181.out))) (Kd.R_lt (by (with_reducible repeat (first | apply Kd.R_alloc | apply Kd.R_drewN | apply Kd.R_drew)); exact HO187.out))) (Kd.R_lt (by (with_reducible repeat (first | apply Kd.R_alloc | apply Kd.R_drewN | apply Kd.R_drew)); exact HO190.out))) (below_size (by repeat (first | (with_reducible first | exact HB.out | apply below_alloc | apply pw_below_drewN | apply below_drew1) | exact HB.out)))); have n4_ := Aside0.mk (below_step (by repeat (first | (with_reducible first | exact HB.out | apply below_alloc | apply pw_below_drewN | apply below_drew1) | exact HB.out)) hb); clear HO181; clear HO187; clear HO190; clear HB; have HO181 := n0_; have HO187 := n1_; have HO190 := n2_; have HO193 := n3_; have HB := n4_; clear n0_ n1_ n2_ n3_ n4_; (try clear hb); (try clear hb2); (try clear hk); (try clear hi); (try clear ho0); obtain ⟨Ao28, co28, eo28⟩ := Kd.R_slice HO193.out; subst eo28; obtain ⟨Ao29, co29, eo29⟩ := Kd.R_slice HO190.out; subst eo29) | ((with_reducible refine gate_callee (f := 10) rfl ?_); refine goesL_ (some 34) rfl rfl Try.func10 (by kernel_rfl) rfl #[.slice Ao28 t191.length co28, .slice Ao29 y188.length co29] rfl (by (try simp only [List.map_toArray, List.map_cons, List.map_nil]); first | done | rfl | (simp only [List.length_drop, List.length_take]; rfl)) ?_; (with_reducible refine (concordatref01_Same.calls kj4 _ _ t191 _ _ y188 true _ ?side1 ?side2 ?side3 ?side4 A16.out).mono ?_); (case side1 => repeat (first | exact (Kd.R_reads' HO193.out).2.2 | (with_reducible refine Kd.C_alloc ?_ _) | (with_reducible refine Kd.C_drewN ?_ _) | (with_reducible refine Kd.C_drew ?_))); (case side2 => exact (Kd.R_reads' HO193.out).2.1); (case side3 => repeat (first | exact (Kd.R_reads' HO190.out).2.2 | (with_reducible refine Kd.C_alloc ?_ _) | (with_reducible refine Kd.C_drewN ?_ _) | (with_reducible refine Kd.C_drew ?_))); (case side4 => exact (Kd.R_reads' HO190.out).2.1); rintro e w' ⟨rfl, ⟨nd, rfl⟩⟩; refine ⟨_, rfl, ?_⟩) | (go_at_call 12; (with_reducible refine (lines_Count.calls (t178 ++ a1) t195 _ A18.out).mono ?_); rintro e w' ⟨rfl, ⟨nd, rfl⟩⟩) | (go_at_call 12; (with_reducible refine (lines_Count.calls t178 t196 _ A19.out).mono ?_); rintro e w' ⟨rfl, ⟨nd, rfl⟩⟩) | (go_at_call 12; (with_reducible refine (lines_Count.calls a1 t197 _ A20.out).mono ?_); rintro e w' ⟨rfl, ⟨nd, rfl⟩⟩))
                  go_ret
                  exact ⟨by first | rfl | (simp [errW_none, errW_some] <;> rfl) | (simp [*, errW_none, errW_some] <;> rfl), by repeat (first | (with_reducible first | exact HB.out | apply below_alloc | apply pw_below_drewN | apply below_drew1) | exact HB.out)⟩
                · replace c17 := Bool.eq_false_iff.mpr c17
                  subst c17
                  have H1 : (none) = some r := by rw [if_neg (show ¬ (false = true) by decide)] at H; exact H
                  clear H
                  have H := H1
                  clear H1
                  exact absurd H (by simp)
              · rw [if_neg c14] at H
                exact absurd H (by simp)
            · rw [if_neg c13] at H
              exact absurd H (by simp)
          · rw [if_neg c11] at H
            exact absurd H (by simp)
  · replace c4 := Bool.eq_false_iff.mpr c4
    subst c4
    have H1 : (none) = some r := by rw [if_neg (show ¬ (false = true) by decide)] at H; exact H
    clear H
    have H := H1
    clear H1
    exact absurd H (by simp)

/-- THE ONE PURE STATEMENT of concordatlaw01_LinesParts: yours. -/
def concordatlaw01_LinesParts.Pure : Prop := ∀ (a0 : ByteArray) (a1 : ByteArray), a0.size ≤ 140737488351232 → a1.size ≤ 140737488351232 → ∃ k, concordatlaw01_LinesParts.f k a0 a1 = some true
theorem concordatlaw01_LinesParts.walk (P : concordatlaw01_LinesParts.Pure) (a0 : ByteArray) (a1 : ByteArray) (w : World) (w0 : a0.size ≤ 140737488351232) (w1 : a1.size ≤ 140737488351232) :
    Calls Try.prog 7 #[.string a0, .string a1] w fun e w' => e = .returned (.bool true) ∧ Below w.heap.size w w' := by
  obtain ⟨k, h⟩ := P a0 a1 w0 w1
  refine (concordatlaw01_LinesParts.calls k a0 a1 true w h).mono ?_
  rintro e w' ⟨rfl, hd⟩
  exact ⟨rfl, hd⟩

end Go.Proofs.Ythgmnnlnggalgaa.PLines
