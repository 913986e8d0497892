/- Laid by a program of this session out of the seat's translation. -/
import Derived.Test.YteafndooaokagaaPDiffx0
import Derived.Test.YteafndooaokagaaPDiffx7
namespace Go.Proofs.Yteafndooaokagaa.PDiff
open Go.RowKit Go.Proofs.YteafndooaokagaaW.PrintWords Go.Proofs.YteafndooaokagaaW.PrintLast Go.Proofs.YteafndooaokagaaW.PrintMore
attribute [local go_sem] max2_int min2_int max_two min_two max_three min_three max_four min_four   -- for this text's walks alone
set_option linter.unusedVariables false
set_option linter.unusedSimpArgs false
/-! ### diff3_Clean: function 15 -/
set_option maxHeartbeats 1000000 in
theorem diff3_Clean.one (x : S41) (w : World) :
  Calls Try.prog 29 #[.agg #[.int .i64 x.f0, .int .i64 x.f1.f0, .int .i64 x.f1.f1, .int .i64 x.f2.f0, .int .i64 x.f2.f1, .int .i64 x.f3.f0, .int .i64 x.f3.f1]] w fun e w' => e = .returned (.bool (x.f0 == 4)) ∧ Below w.heap.size w w' := by
 go_enter Try.func29, Try.ntmps29
 go_wp2
 go_ret
 exact ⟨rfl, (Below.refl _ w).alloc (Nat.le_refl _) _⟩
def diff3_Clean.ix : List S41 → Nat → Int
 | [], _ => -1
 | x :: l, i => if x.f0 == 4 then (i : Int) else diff3_Clean.ix l (i + 1)
set_option maxHeartbeats 2000000 in
set_option maxRecDepth 100000 in
theorem diff3_Clean.index (A : Option Addr) (c : Nat) (l : List S41) (w : World) (hr : Kd.C k41 w A l.length l) (hc : l.length ≤ c) :
  Calls Try.prog 41 #[.slice A l.length c, .func (.func 29) #[] #[]] w fun e w' => e = .returned (.int .i64 (diff3_Clean.ix l 0)) ∧ Below w.heap.size w w' := by
 have hlen := hr.2.1
 go_enter Try.func41, Try.ntmps41
 go_wp2
 go_loopw [8] (fun p wr => ∃ i : Nat, p = .int .i64 (i : Int) ∧ i ≤ l.length ∧ diff3_Clean.ix l 0 = diff3_Clean.ix (l.drop i) i ∧ Below w.heap.size w wr) (fun p _ => l.length - (Lib.intOf p).toNat)
 case atStart => exact ⟨0, rfl, Nat.zero_le _, rfl, Below.refl _ _⟩
 case round =>
  obtain ⟨i, rfl, hi, hx, hB⟩ := hrel
  by_cases hlt : i < l.length
  ·have hr' := hr
   obtain ⟨ad, e, h0, h1, h2, h3, h4, h5, h6⟩ := at_T41 (Kd.C_below hr hB) (i : Int) (by omega) (by omega)
   cases e
   simp only [Int.toNat_natCast] at h0 h1 h2 h3 h4 h5 h6
   obtain ⟨x, hx1⟩ : ∃ x, rd_T41 l (i : Int) = x := ⟨_, rfl⟩
   rw [hx1] at h0 h1 h2 h3 h4 h5 h6
   have hd : l.drop i = x :: l.drop (i + 1) := by
    rw [List.drop_eq_getElem_cons hlt, ← hx1]
    show _ = l.getD i z41 :: _
    rw [List.getD_eq_getElem?_getD, List.getElem?_eq_getElem hlt]; rfl
   rw [hd, diff3_Clean.ix] at hx
   have hH := Lib.hid hx
   clear hx hx1 hd
   go_wp2_with (go_at_call 29; refine (diff3_Clean.one x _).mono ?_; rintro e w' ⟨rfl, hb⟩)
   ·rename_i hq
    go_ret
    have hx := hH.out
    rw [if_pos (by simpa using hq)] at hx
    exact ⟨by rw [hx]; rfl, hB.trans (hb.mono hB.size)⟩
   ·rename_i hq
    have hx := hH.out
    rw [if_neg (by simpa using hq)] at hx
    exact ⟨⟨i + 1, by simp, by omega, hx, hB.trans (hb.mono hB.size)⟩, by simp [Lib.intOf]; omega⟩
  ·obtain rfl : i = l.length := by omega
   rw [List.drop_eq_nil_of_le (Nat.le_refl _), diff3_Clean.ix] at hx
   have hH := Lib.hid hx
   clear hx
   go_wp2
   go_ret
   exact ⟨by rw [hH.out]; rfl, hB⟩
theorem diff3_Clean.contains (A : Option Addr) (c : Nat) (l : List S41) (w : World) (hr : Kd.C k41 w A l.length l) (hc : l.length ≤ c) :
  Calls Try.prog 28 #[.slice A l.length c, .func (.func 29) #[] #[]] w fun e w' => e = .returned (.bool (decide (0 ≤ diff3_Clean.ix l 0))) ∧ Below w.heap.size w w' := by
 go_enter Try.func28, Try.ntmps28
 go_wp2_with (go_at_call 41; refine (diff3_Clean.index A c l _ hr hc).mono ?_; rintro e w' ⟨rfl, hb⟩)
 go_ret
 exact ⟨rfl, hb⟩
theorem diff3_Clean.ix_all : ∀ (l : List S41) (i : Nat), (0 ≤ diff3_Clean.ix l i) ↔ ¬ (∀ x ∈ l, x.f0 ≠ 4)
 | [], i => by simp [diff3_Clean.ix]
 | x :: l, i => by
  rw [diff3_Clean.ix]
  by_cases h : x.f0 = 4
  ·rw [if_pos (by simpa using h)]
   exact ⟨fun _ hx => hx x List.mem_cons_self h, fun _ => by omega⟩
  ·rw [if_neg (by simpa using h), diff3_Clean.ix_all l (i + 1)]
   constructor
   ·intro h1 h2; exact h1 (fun y hy => h2 y (List.mem_cons_of_mem _ hy))
   ·intro h1 h2
    exact h1 (fun y hy => by rcases List.mem_cons.1 hy with rfl | hy; exact h; exact h2 y hy)
def diff3_Clean.f (l : List S41) : Option Bool := some (l.all (fun x => !(x.f0 == 4)))
theorem diff3_Clean.calls (A0 : Option Addr) (c0 : Nat) (l0 : List S41) (r : Bool) (w : World) (hr0 : Kd.C k41 w A0 l0.length l0) (hc0 : l0.length ≤ c0) (h : diff3_Clean.f l0 = some r) :
  Calls Try.prog 15 #[.slice A0 l0.length c0] w fun e w' => e = .returned (.bool r) ∧ Below w.heap.size w w' := by
 cases h
 go_enter Try.func15, Try.ntmps15
 go_wp2_with (go_at_call 28; refine (diff3_Clean.contains A0 c0 l0 _ hr0 hc0).mono ?_; rintro e w' ⟨rfl, hb⟩)
 go_ret
 refine ⟨?_, hb⟩
 congr 2
 have := diff3_Clean.ix_all l0 0
 by_cases h : ∀ x ∈ l0, x.f0 ≠ 4
 ·rw [decide_eq_false (fun h' => this.1 h' h)]; simp; exact h
 ·rw [decide_eq_true (this.2 h)]; simp at h ⊢; exact h
/-! ### diff3_merged_int: function 25 -/
-- info3
set_option maxHeartbeats 1000000 in
theorem diff3_merged_int.side1 (ba bc : Nat) (A : Option Addr) (c : Nat) (xs : List Int) (lo hi : Nat) (W : World) (h1 : W.cell? ⟨ba, 0, none⟩ = some (.slice A xs.length c)) (h2 : W.cell? ⟨bc, 3, none⟩ = some (.int .i64 (lo : Int))) (h3 : W.cell? ⟨bc, 4, none⟩ = some (.int .i64 (hi : Int)))
  (hC : Kd.C (Kd.int .i64) W A xs.length xs) (hc : xs.length ≤ c) (hlh : lo ≤ hi) (hhx : hi ≤ xs.length) :
  Calls Try.prog 38 #[.pointer (some ⟨ba, 0, none⟩), .pointer (some ⟨bc, 0, none⟩)] W fun e w' => w' = W ∧ ∃ A' c', e = .returned (.slice A' ((xs.take hi).drop lo).length c') ∧ Kd.C (Kd.int .i64) W A' ((xs.take hi).drop lo).length ((xs.take hi).drop lo) := by
 have hhc : hi ≤ c := by omega
 have hM := Kd.C_mid (lo := lo) (hi := hi) hC hlh hhx hc
 obtain ⟨ys, hys⟩ : ∃ ys, (xs.take hi).drop lo = ys := ⟨_, rfl⟩
 have hl : hi - lo = ys.length := by rw [← hys, List.length_drop, List.length_take]; omega
 rw [hys] at hM ⊢
 have HM := Lib.hid hM
 clear hM
 go_enter Try.func38, Try.ntmps38
 go_wp2
 all_goals
  go_ret
  have hM := HM.out
  refine ⟨rfl, _, ⟨_, rfl⟩, ?_⟩
  first
  | (rw [if_neg (by omega)] at hM; simpa [show (Kd.int .i64).sz = 1 from rfl] using hM)
  | (rw [if_pos (by omega)] at hM; simpa using hM)
set_option maxHeartbeats 1000000 in
theorem diff3_merged_int.side2 (ba bc : Nat) (A : Option Addr) (c : Nat) (xs : List Int) (lo hi : Nat) (W : World) (h1 : W.cell? ⟨ba, 0, none⟩ = some (.slice A xs.length c)) (h2 : W.cell? ⟨bc, 5, none⟩ = some (.int .i64 (lo : Int))) (h3 : W.cell? ⟨bc, 6, none⟩ = some (.int .i64 (hi : Int)))
  (hC : Kd.C (Kd.int .i64) W A xs.length xs) (hc : xs.length ≤ c) (hlh : lo ≤ hi) (hhx : hi ≤ xs.length) :
  Calls Try.prog 39 #[.pointer (some ⟨ba, 0, none⟩), .pointer (some ⟨bc, 0, none⟩)] W fun e w' => w' = W ∧ ∃ A' c', e = .returned (.slice A' ((xs.take hi).drop lo).length c') ∧ Kd.C (Kd.int .i64) W A' ((xs.take hi).drop lo).length ((xs.take hi).drop lo) := by
 have hhc : hi ≤ c := by omega
 have hM := Kd.C_mid (lo := lo) (hi := hi) hC hlh hhx hc
 obtain ⟨ys, hys⟩ : ∃ ys, (xs.take hi).drop lo = ys := ⟨_, rfl⟩
 have hl : hi - lo = ys.length := by rw [← hys, List.length_drop, List.length_take]; omega
 rw [hys] at hM ⊢
 have HM := Lib.hid hM
 clear hM
 go_enter Try.func39, Try.ntmps39
 go_wp2
 all_goals
  go_ret
  have hM := HM.out
  refine ⟨rfl, _, ⟨_, rfl⟩, ?_⟩
  first
  | (rw [if_neg (by omega)] at hM; simpa [show (Kd.int .i64).sz = 1 from rfl] using hM)
  | (rw [if_pos (by omega)] at hM; simpa using hM)
def diff3_merged_int.piece (x : S41) (a b : List Int) : Option (List Int) :=
 if x.f0 = 2 then (if 0 ≤ x.f3.f0 ∧ x.f3.f0 ≤ x.f3.f1 ∧ x.f3.f1 ≤ b.length then some ((b.take x.f3.f1.toNat).drop x.f3.f0.toNat) else none)
 else (if 0 ≤ x.f2.f0 ∧ x.f2.f0 ≤ x.f2.f1 ∧ x.f2.f1 ≤ a.length then some ((a.take x.f2.f1.toNat).drop x.f2.f0.toNat) else none)
def diff3_merged_int.go (a b : List Int) : List S41 → List Int → Option (List Int)
 | [], acc => some acc
 | x :: l, acc => (diff3_merged_int.piece x a b).bind fun p => if acc.length + p.length < 17592186044416 then diff3_merged_int.go a b l (acc ++ p) else none
def diff3_merged_int.f (l : List S41) (a b : List Int) : Option (List Int × Bool) :=
 (diff3_Clean.f l).bind fun c => if c = true then (diff3_merged_int.go a b l []).bind fun r => some (r, true) else some ([], false)
set_option maxHeartbeats 4000000 in
set_option maxRecDepth 100000 in
theorem diff3_merged_int.calls (A0 : Option Addr) (c0 : Nat) (l0 : List S41) (A1 : Option Addr) (c1 : Nat) (l1 : List Int) (A2 : Option Addr) (c2 : Nat) (l2 : List Int) (r1 : List Int) (r2 : Bool) (w : World) (hr0 : Kd.C k41 w A0 l0.length l0) (hc0 : l0.length ≤ c0) (hr1 : Kd.C (Kd.int .i64) w A1 l1.length l1) (hc1 : l1.length ≤ c1) (hr2 : Kd.C (Kd.int .i64) w A2 l2.length l2) (hc2 : l2.length ≤ c2) (h : diff3_merged_int.f l0 l1 l2 = some (r1, r2)) :
  Calls Try.prog 25 #[.slice A0 l0.length c0, .slice A1 l1.length c1, .slice A2 l2.length c2] w fun e w' => ∃ v0_ : Value, e = .returned (.tuple #[v0_, .bool r2]) ∧ Kd.R (Kd.int .i64) 3 w' w.heap.size (fun _ => True) v0_ r1 ∧ Below w.heap.size w w' := by
 unfold diff3_merged_int.f at h
 obtain ⟨b, hb, h⟩ := Option.bind_eq_some_iff.1 h
 have hlen := hr0.2.1
 go_enter Try.func25, Try.ntmps25
 have bA := Boxed.new w 22 (.slice A1 l1.length c1)
 have bB := Boxed.new (w.alloc (.cells #[.slice A1 l1.length c1] 22)) 22 (.slice A2 l2.length c2)
 have bA := bA.alloc (.cells #[.slice A2 l2.length c2] 22)
 rw [World.size_alloc] at bB
 have hB0 : Below w.heap.size w ((w.alloc (.cells #[.slice A1 l1.length c1] 22)).alloc (.cells #[.slice A2 l2.length c2] 22)) := ((Below.refl _ w).alloc (Nat.le_refl _) _).alloc (by simp) _
 obtain ⟨w2, hw2⟩ : ∃ x, (w.alloc (.cells #[.slice A1 l1.length c1] 22)).alloc (.cells #[.slice A2 l2.length c2] 22) = x := ⟨_, rfl⟩
 rw [hw2] at bA bB hB0
 cases b with
 | false =>
  rw [if_neg (by decide)] at h
  cases h
  go_wp2_with (go_at_call 15; refine (diff3_Clean.calls A0 c0 l0 false _ (Kd.C_below hr0 hB0) hc0 hb).mono ?_; rintro e w' ⟨rfl, hb'⟩)
  refine bodyPost_ret (results_tmp2 rfl _ _ _) rfl ?_
  exact ⟨_, rfl, Kd.R_nil _ _ _ _ _, hB0.trans (hb'.mono hB0.size)⟩
 | true =>
  rw [if_pos rfl] at h
  obtain ⟨r, hr, h⟩ := Option.bind_eq_some_iff.1 h
  cases h
  go_wp2_with (go_at_call 15; refine (diff3_Clean.calls A0 c0 l0 true _ (Kd.C_below hr0 hB0) hc0 hb).mono ?_; rintro e w' ⟨rfl, hb'⟩)
  clear hw2
  have cA : Boxed w' w.heap.size 22 (.slice A1 l1.length c1) := (hb'.block _ bA.lt).trans bA
  have cB : Boxed w' (w.heap.size + 1) 22 (.slice A2 l2.length c2) := (hb'.block _ bB.lt).trans bB
  have hB1 := hB0.trans (hb'.mono hB0.size)
  clear bA bB hb'
  go_loopw [8, 17] (fun vo p wr => ∃ (i : Nat) (acc : List Int), p = .int .i64 (i : Int) ∧ i ≤ l0.length ∧ diff3_merged_int.go l1 l2 (l0.drop i) acc = some r1 ∧ Kd.R (Kd.int .i64) 3 wr w.heap.size (fun _ => True) vo acc ∧ Boxed wr w.heap.size 22 (.slice A1 l1.length c1) ∧ Boxed wr (w.heap.size + 1) 22 (.slice A2 l2.length c2) ∧ Below w.heap.size w wr) (fun _ p _ => l0.length - (Lib.intOf p).toNat)
  case atStart => exact ⟨0, [], rfl, Nat.zero_le _, hr, Kd.R_nil _ _ _ _ _, cA, cB, hB1⟩
  case round =>
   clear cA cB hB1
   obtain ⟨i, acc, rfl, hi, hgo, HO, cA, cB, hB⟩ := hrel
   by_cases hlt : i < l0.length
   ·obtain ⟨ad, e, h0, h1, h2, h3, h4, h5, h6⟩ := at_T41 (Kd.C_below hr0 hB) (i : Int) (by omega) (by omega)
    cases e
    simp only [Int.toNat_natCast] at h0 h1 h2 h3 h4 h5 h6
    obtain ⟨x, hx1⟩ : ∃ x, rd_T41 l0 (i : Int) = x := ⟨_, rfl⟩
    rw [hx1] at h0 h1 h2 h3 h4 h5 h6
    have hd : l0.drop i = x :: l0.drop (i + 1) := by
     rw [List.drop_eq_getElem_cons hlt, ← hx1]
     show _ = l0.getD i z41 :: _
     rw [List.getD_eq_getElem?_getD, List.getElem?_eq_getElem hlt]; rfl
    rw [hd, diff3_merged_int.go] at hgo
    obtain ⟨p, hp, hgo⟩ := Option.bind_eq_some_iff.1 hgo
    split at hgo
    case isFalse => cases hgo
    rename_i hlim
    have HG := Lib.hid hgo
    clear hgo hd hx1 hr
    unfold diff3_merged_int.piece at hp
    by_cases hk : x.f0 = 2
    ·rw [if_pos hk] at hp
     split at hp
     case isFalse => cases hp
     rename_i hbd
     obtain ⟨q1, q2, q3⟩ := hbd
     obtain ⟨lo, hlo⟩ : ∃ lo : Nat, x.f3.f0 = (lo : Int) := ⟨x.f3.f0.toNat, by omega⟩
     obtain ⟨hi', hhi⟩ : ∃ hi : Nat, x.f3.f1 = (hi : Int) := ⟨x.f3.f1.toNat, by omega⟩
     rw [hlo, hhi] at hp q2
     rw [hhi] at q3
     simp only [Int.toNat_natCast] at hp
     have hp' := Option.some.inj hp
     clear hp q1
     have hC2 : Kd.C (Kd.int .i64) wr A2 l2.length l2 := Kd.C_below hr2 hB
     go_wp2_with (fail)
     refine (diff3_merged_int.side2 (w.heap.size + 1) wr.heap.size A2 c2 l2 lo hi' _ ?c1 ?c2 ?c3 (Kd.C_alloc hC2 _) hc2 (by omega) (by omega)).mono ?_
     case c1 => exact (cB.alloc _).cell
     case c2 => unfold World.cell?; rw [World.alloc_heap_new]; rfl
     case c3 => unfold World.cell?; rw [World.alloc_heap_new]; rfl
     rintro e w' ⟨rfl, A', c', rfl, hC'⟩
     rw [hp'] at hC' ⊢
     obtain ⟨W, hW⟩ : ∃ W, wr.alloc (Obj.cells #[.int .i64 2, .int .i64 x.f1.f0, .int .i64 x.f1.f1, .int .i64 x.f2.f0, .int .i64 x.f2.f1, .int .i64 (lo : Int), .int .i64 (hi' : Int)] 41) = W := ⟨_, rfl⟩
     have HOW : Kd.R (Kd.int .i64) 3 W w.heap.size (fun _ => True) u8 acc := by rw [← hW]; exact Kd.R_alloc HO _
     have cAW : Boxed W w.heap.size 22 (.slice A1 l1.length c1) := by rw [← hW]; exact cA.alloc _
     have cBW : Boxed W (w.heap.size + 1) 22 (.slice A2 l2.length c2) := by rw [← hW]; exact cB.alloc _
     have hBW : Below w.heap.size w W := by rw [← hW]; exact hB.alloc hB.size _
     rw [hW] at hC' ⊢
     clear hW
     go_wp2_with ((with_reducible refine gate_builtin (b := .append) (xs := #[.tmp 27, .tmp 29]) rfl ?_); at_builtin; refine Kd.R_append_rows (Kd.int .i64) (w0 := w) w.heap.size rfl (.tmp 27) (.tmp 29) 22 3 (.int .i64 0) 8 rfl Try.underlying22 info3 rfl (by decide) (by omega) u8 acc p _ _ _ (fun _ => True) (fun _ => False) rfl rfl HOW hC' (fun _ _ h => h) (fun _ h => h.elim) (fun _ _ => trivial) hBW hBW.size (by omega) ?_; refine Hid.out ?_)
     refine Lib.hid ?_
     intro v1 w1 HO1 hB1 hg1 hat1
     have cA1 := cAW.kept hg1 (Kd.R_ne HOW cAW (by decide))
     have cB1 := cBW.kept hg1 (Kd.R_ne HOW cBW (by decide))
     go_wp2
     exact ⟨⟨i + 1, acc ++ p, by simp, by omega, HG.out, HO1, cA1, cB1, hB1⟩, by simp [Lib.intOf]; omega⟩
    ·rw [if_neg hk] at hp
     split at hp
     case isFalse => cases hp
     rename_i hbd
     obtain ⟨q1, q2, q3⟩ := hbd
     obtain ⟨lo, hlo⟩ : ∃ lo : Nat, x.f2.f0 = (lo : Int) := ⟨x.f2.f0.toNat, by omega⟩
     obtain ⟨hi', hhi⟩ : ∃ hi : Nat, x.f2.f1 = (hi : Int) := ⟨x.f2.f1.toNat, by omega⟩
     rw [hlo, hhi] at hp q2
     rw [hhi] at q3
     simp only [Int.toNat_natCast] at hp
     have hp' := Option.some.inj hp
     clear hp q1
     have hC2 : Kd.C (Kd.int .i64) wr A1 l1.length l1 := Kd.C_below hr1 hB
     go_wp2_with (fail)
     refine (diff3_merged_int.side1 (w.heap.size) wr.heap.size A1 c1 l1 lo hi' _ ?c1 ?c2 ?c3 (Kd.C_alloc hC2 _) hc1 (by omega) (by omega)).mono ?_
     case c1 => exact (cA.alloc _).cell
     case c2 => unfold World.cell?; rw [World.alloc_heap_new]; rfl
     case c3 => unfold World.cell?; rw [World.alloc_heap_new]; rfl
     rintro e w' ⟨rfl, A', c', rfl, hC'⟩
     rw [hp'] at hC' ⊢
     obtain ⟨W, hW⟩ : ∃ W, wr.alloc (Obj.cells #[.int .i64 x.f0, .int .i64 x.f1.f0, .int .i64 x.f1.f1, .int .i64 (lo : Int), .int .i64 (hi' : Int), .int .i64 x.f3.f0, .int .i64 x.f3.f1] 41) = W := ⟨_, rfl⟩
     have HOW : Kd.R (Kd.int .i64) 3 W w.heap.size (fun _ => True) u8 acc := by rw [← hW]; exact Kd.R_alloc HO _
     have cAW : Boxed W w.heap.size 22 (.slice A1 l1.length c1) := by rw [← hW]; exact cA.alloc _
     have cBW : Boxed W (w.heap.size + 1) 22 (.slice A2 l2.length c2) := by rw [← hW]; exact cB.alloc _
     have hBW : Below w.heap.size w W := by rw [← hW]; exact hB.alloc hB.size _
     rw [hW] at hC' ⊢
     clear hW
     go_wp2_with ((with_reducible refine gate_builtin (b := .append) (xs := #[.tmp 27, .tmp 29]) rfl ?_); at_builtin; refine Kd.R_append_rows (Kd.int .i64) (w0 := w) w.heap.size rfl (.tmp 27) (.tmp 29) 22 3 (.int .i64 0) 8 rfl Try.underlying22 info3 rfl (by decide) (by omega) u8 acc p _ _ _ (fun _ => True) (fun _ => False) rfl rfl HOW hC' (fun _ _ h => h) (fun _ h => h.elim) (fun _ _ => trivial) hBW hBW.size (by omega) ?_; refine Hid.out ?_)
     refine Lib.hid ?_
     intro v1 w1 HO1 hB1 hg1 hat1
     have cA1 := cAW.kept hg1 (Kd.R_ne HOW cAW (by decide))
     have cB1 := cBW.kept hg1 (Kd.R_ne HOW cBW (by decide))
     go_wp2
     exact ⟨⟨i + 1, acc ++ p, by simp, by omega, HG.out, HO1, cA1, cB1, hB1⟩, by simp [Lib.intOf]; omega⟩
   ·obtain rfl : i = l0.length := by omega
    rw [List.drop_eq_nil_of_le (Nat.le_refl _), diff3_merged_int.go] at hgo
    cases hgo
    go_wp2
    refine bodyPost_ret (results_tmp2 rfl _ _ _) rfl ?_
    exact ⟨_, rfl, HO, hB⟩
/-! ### diff3_Merge: function 11 -/
def diff3_Merge.f (k : Nat) (l0 : List Int) (l1 : List Int) (l2 : List Int) : Option (List Int × Bool) := (diff3_Chunks.f k l0 l1 l2).bind fun t159 => ((diff3_merged_int.f t159 l1 l2).bind fun bt162 => (some (bt162.1, bt162.2)))
theorem diff3_Merge.mono : ∀ a0 a1 a2 k, LeO (diff3_Merge.f k a0 a1 a2) (diff3_Merge.f (k + 1) a0 a1 a2) := by
 intro a0 a1 a2 k
 unfold diff3_Merge.f
 repeat' first
   | (with_reducible exact diff3_Chunks.mono _ _ _ _)
   | (with_reducible exact LeO.refl _)
   | (with_reducible exact LeO.none _)
   | (with_reducible refine LeO.ite ?_ ?_)
   | (with_reducible refine LeO.bind ?_ (fun _ => ?_))
   | exact diff3_Chunks.mono _ _ _ _
   | exact LeO.none _
   | refine LeO.ite ?_ ?_
   | refine LeO.bind ?_ (fun _ => ?_)
set_option maxHeartbeats 8000000 in
set_option maxRecDepth 100000 in
theorem diff3_Merge.calls (k : Nat) (A0 : Option Addr) (c0 : Nat) (l0 : List Int) (A1 : Option Addr) (c1 : Nat) (l1 : List Int) (A2 : Option Addr) (c2 : Nat) (l2 : List Int) (r1 : List Int) (r2 : Bool) (w : World) (hr0 : Kd.C (Kd.int .i64) w A0 l0.length l0) (hc0 : l0.length ≤ c0) (hr1 : Kd.C (Kd.int .i64) w A1 l1.length l1) (hc1 : l1.length ≤ c1) (hr2 : Kd.C (Kd.int .i64) w A2 l2.length l2) (hc2 : l2.length ≤ c2) (h : diff3_Merge.f k l0 l1 l2 = some (r1, r2)) :
  Calls Try.prog 11 #[.slice A0 l0.length c0, .slice A1 l1.length c1, .slice A2 l2.length c2] w fun e w' => ∃ v0_ : Value, e = .returned (.tuple #[v0_, .bool r2]) ∧ Kd.R (Kd.int .i64) 3 w' w.heap.size (fun _ => True) v0_ r1 ∧ Below w.heap.size w w' := by
 have HR0 := Zm hr0
 have HC0 := Zm hc0
 clear hr0 hc0
 have HR1 := Zm hr1
 have HC1 := Zm hc1
 clear hr1 hc1
 have HR2 := Zm hr2
 have HC2 := Zm hc2
 clear hr2 hc2
 have HB := Zm (Below.refl w.heap.size w)
 have H : ((diff3_Chunks.f k l0 l1 l2).bind fun t159 => ((diff3_merged_int.f t159 l1 l2).bind fun bt162 => (some (bt162.1, bt162.2)))) = some (r1, r2) := h
 clear h
 replace H := Option.bind_eq_some_iff.mp H
 obtain ⟨t159, A40, H⟩ := H
 replace H : ((diff3_merged_int.f t159 l1 l2).bind fun bt162 => (some (bt162.1, bt162.2))) = some (r1, r2) := H
 have A4 := Zm A40
 clear A40
 replace H := Option.bind_eq_some_iff.mp H
 obtain ⟨⟨t162, t163⟩, A50, H⟩ := H
 replace H : (some (t162, t163)) = some (r1, r2) := H
 have A5 := Zm A50
 clear A50
 simp only [Option.some.injEq, Prod.mk.injEq] at H
 obtain ⟨rfl, rfl⟩ := H
 go_enter Try.func11, Try.ntmps11
 go_wp2_with (first | ((with_reducible refine gate_callee (f := 10) rfl ?_); refine goesL_ (some 11) rfl rfl Try.func10 (by kernel_rfl) rfl #[.slice A0 l0.length c0, .slice A1 l1.length c1, .slice A2 l2.length c2] rfl (by (try simp only [List.map_toArray, List.map_cons, List.map_nil]); first | done | rfl | (simp only [List.length_drop, List.length_take]; rfl)) ?_; (with_reducible refine (diff3_Chunks.calls k _ _ l0 _ _ l1 _ _ l2 t159 _ ?side1 ?side2 ?side3 ?side4 ?side5 ?side6 A4.out).mono ?_); (case side1 => repeat (first | exact HR0.out | (with_reducible refine Kd.C_alloc ?_ _) | (with_reducible refine Kd.C_drewN ?_ _) | (with_reducible refine Kd.C_drew ?_))); (case side2 => exact HC0.out); (case side3 => repeat (first | exact HR1.out | (with_reducible refine Kd.C_alloc ?_ _) | (with_reducible refine Kd.C_drewN ?_ _) | (with_reducible refine Kd.C_drew ?_))); (case side4 => exact HC1.out); (case side5 => repeat (first | exact HR2.out | (with_reducible refine Kd.C_alloc ?_ _) | (with_reducible refine Kd.C_drewN ?_ _) | (with_reducible refine Kd.C_drew ?_))); (case side6 => exact HC2.out); rintro e w6 ⟨v160, rfl, ho0, hb⟩; refine ⟨_, rfl, ?_⟩; have n0_ := Zm (Kd.R_lower ho0 (below_size (by repeat (first | (with_reducible first | exact HB.out | apply below_alloc | apply Zd | apply below_drew1) | exact HB.out)))); have n1_ := Zm (below_step (by repeat (first | (with_reducible first | exact HB.out | apply below_alloc | apply Zd | apply below_drew1) | exact HB.out)) hb); clear HB; have HO161 := n0_; have HB := n1_; clear n0_ n1_; (try clear hb); (try clear hb2); (try clear hk); (try clear hi); (try clear ho0); obtain ⟨Ao7, co7, eo7⟩ := Kd.R_slice HO161.out; subst eo7) | ((with_reducible refine gate_callee (f := 25) rfl ?_); refine goesL_ (some 14) rfl rfl Try.func25 (by kernel_rfl) rfl #[.slice Ao7 t159.length co7, .slice A1 l1.length c1, .slice A2 l2.length c2] rfl (by (try simp only [List.map_toArray, List.map_cons, List.map_nil]); first | done | rfl | (simp only [List.length_drop, List.length_take]; rfl)) ?_; (with_reducible refine (diff3_merged_int.calls _ _ t159 _ _ l1 _ _ l2 t162 t163 _ ?side1 ?side2 ?side3 ?side4 ?side5 ?side6 A5.out).mono ?_); (case side1 => repeat (first | exact (Kd.R_reads' HO161.out).2.2 | (with_reducible refine Kd.C_alloc ?_ _) | (with_reducible refine Kd.C_drewN ?_ _) | (with_reducible refine Kd.C_drew ?_))); (case side2 => exact (Kd.R_reads' HO161.out).2.1); (case side3 => repeat (first | exact (Kd.C_below HR1.out HB.out) | (with_reducible refine Kd.C_alloc ?_ _) | (with_reducible refine Kd.C_drewN ?_ _) | (with_reducible refine Kd.C_drew ?_))); (case side4 => exact HC1.out); (case side5 => repeat (first | exact (Kd.C_below HR2.out HB.out) | (with_reducible refine Kd.C_alloc ?_ _) | (with_reducible refine Kd.C_drewN ?_ _) | (with_reducible refine Kd.C_drew ?_))); (case side6 => exact HC2.out); rintro e w8 ⟨v164, rfl, ho0, hb⟩; refine ⟨_, rfl, ?_⟩; have n0_ := Zm (Kd.R_below (by (with_reducible repeat (first | apply Kd.R_alloc | apply Kd.R_drewN | apply Kd.R_drew)); exact HO161.out) hb); have n1_ := Zm (Kd.R_lower ho0 (below_size (by repeat (first | (with_reducible first | exact HB.out | apply below_alloc | apply Zd | apply below_drew1) | exact HB.out)))); have n2_ := Zm (below_step (by repeat (first | (with_reducible first | exact HB.out | apply below_alloc | apply Zd | apply below_drew1) | exact HB.out)) hb); clear HO161; clear HB; have HO161 := n0_; have HO165 := n1_; have HB := n2_; clear n0_ n1_ n2_; (try clear hb); (try clear hb2); (try clear hk); (try clear hi); (try clear ho0)))
 go_ret2
 exact ⟨_, by first | rfl | (simp [errW_none, errW_some] <;> rfl) | (simp [*, errW_none, errW_some] <;> rfl), by (with_reducible repeat (first | apply Kd.R_alloc | apply Kd.R_drewN | apply Kd.R_drew)); exact HO165.out, by repeat (first | (with_reducible first | exact HB.out | apply below_alloc | apply Zd | apply below_drew1) | exact HB.out)⟩
/-! ### r05_Same: function 17 -/
def r05_Same.l0 : Nat → List Int → List Int → Int → Option (Bool)
 | 0, _, _, _ => none
 | k + 1, x0, x1, x5 => if x5 < (x0.length : Int) then (if 0 ≤ x5 then (if x5 < (x1.length : Int) then (if (rd x0 x5) = (rd x1 x5) then (r05_Same.l0 k x0 x1 (wrap64 (x5 + 1))) else (some false)) else (none)) else (none)) else (some true)
def r05_Same.f (k : Nat) (l0 : List Int) (l1 : List Int) : Option (Bool) := if (l0.length : Int) = (l1.length : Int) then (r05_Same.l0 k l0 l1 0) else (some false)
theorem r05_Same.mono_l : ∀ k, (∀ y0 y1 y2, LeO (r05_Same.l0 k y0 y1 y2) (r05_Same.l0 (k + 1) y0 y1 y2))
 | 0 => fun _ _ _ r h => by simp [r05_Same.l0] at h
 | k + 1 => by
  have ih0 := r05_Same.mono_l k
  ·intro y0 y1 y2
   unfold r05_Same.l0
   repeat' first
   | (with_reducible exact ih0 _ _ _)
   | (with_reducible exact LeO.refl _)
   | (with_reducible exact LeO.none _)
   | (with_reducible refine LeO.ite ?_ ?_)
   | (with_reducible refine LeO.bind ?_ (fun _ => ?_))
   | exact ih0 _ _ _
   | exact LeO.none _
   | refine LeO.ite ?_ ?_
   | refine LeO.bind ?_ (fun _ => ?_)
theorem r05_Same.mono : ∀ a0 a1 k, LeO (r05_Same.f k a0 a1) (r05_Same.f (k + 1) a0 a1) := by
 intro a0 a1 k
 have ih0 := r05_Same.mono_l k
 unfold r05_Same.f
 repeat' first
   | (with_reducible exact ih0 _ _ _)
   | (with_reducible exact LeO.refl _)
   | (with_reducible exact LeO.none _)
   | (with_reducible refine LeO.ite ?_ ?_)
   | (with_reducible refine LeO.bind ?_ (fun _ => ?_))
   | exact ih0 _ _ _
   | exact LeO.none _
   | refine LeO.ite ?_ ?_
   | refine LeO.bind ?_ (fun _ => ?_)
set_option maxHeartbeats 8000000 in
set_option maxRecDepth 100000 in
theorem r05_Same.calls (k : Nat) (A0 : Option Addr) (c0 : Nat) (l0 : List Int) (A1 : Option Addr) (c1 : Nat) (l1 : List Int) (r : Bool) (w : World) (hr0 : Kd.C (Kd.int .i64) w A0 l0.length l0) (hc0 : l0.length ≤ c0) (hr1 : Kd.C (Kd.int .i64) w A1 l1.length l1) (hc1 : l1.length ≤ c1) (h : r05_Same.f k l0 l1 = some r) :
  Calls Try.prog 17 #[.slice A0 l0.length c0, .slice A1 l1.length c1] w fun e w' => e = .returned (.bool r) ∧ Drawn0 w w' := by
 have HR0 := Zm hr0
 have HC0 := Zm hc0
 clear hr0 hc0
 have HR1 := Zm hr1
 have HC1 := Zm hc1
 clear hr1 hc1
 have H : (if (l0.length : Int) = (l1.length : Int) then (r05_Same.l0 k l0 l1 0) else (some false)) = some r := h
 clear h
 by_cases c3 : (l0.length : Int) = (l1.length : Int)
 ·rw [if_pos c3] at H
  have c3b0 : ((l0.length : Int) == (l1.length : Int)) = true := beq_iff_eq.mpr c3
  have c3b1 : ((l0.length : Int) != (l1.length : Int)) = false := bne_eq_false_iff_eq.mpr c3
  have c3b2 : (l0.length == l1.length) = true := by first | simpa using c3 | (simp at c3 ⊢; omega)
  clear c3
  have H' := Zm H
  clear H
  go_enter Try.func17, Try.ntmps17
  go_wp2
  repeat (go_quiet (fail); try go_wp2)
  go_loopg [5] k (fun kq v5 w' => ∃ (x5_1 : Int), v5 = .int .i64 x5_1 ∧ Aside0 (r05_Same.l0 kq l0 l1 x5_1 = some r) ∧ Aside0 (kq ≤ k) ∧ Drawn0 w w')
  case atStart => exact ⟨(0), (by first | rfl | (simp; done) | (simp [*]; done)), H', ⟨Nat.le_refl _⟩, by repeat (first | exact Drawn0.refl _ | apply Drawn0.step)⟩
  case round =>
   clear H'
   try clear c1
   try clear p2
   try clear c3
   try clear c3b0
   try clear c3b1
   try clear c3b2
   obtain ⟨x5_1, rfl, HA, HK1, ⟨m1, rfl⟩⟩ := hrel
   cases gk with
   | zero => exact absurd HA.out (by simp [r05_Same.l0])
   | succ k1 =>
    have H := HA.out
    clear HA
    simp only [r05_Same.l0] at H
    by_cases c4 : x5_1 < (l0.length : Int)
    ·rw [if_pos c4] at H
     have c4b0 : decide (x5_1 < (l0.length : Int)) = true := decide_eq_true c4
     clear c4
     by_cases c5 : 0 ≤ x5_1
     ·rw [if_pos c5] at H
      have c5b0 : decide (0 ≤ x5_1) = true := decide_eq_true c5
      clear c5
      by_cases c6 : x5_1 < (l1.length : Int)
      ·rw [if_pos c6] at H
       have c6b0 : decide (x5_1 < (l1.length : Int)) = true := decide_eq_true c6
       clear c6
       by_cases c7 : (rd l0 x5_1) = (rd l1 x5_1)
       ·rw [if_pos c7] at H
        have c7b0 : ((rd l0 x5_1) == (rd l1 x5_1)) = true := beq_iff_eq.mpr c7
        have c7b1 : ((rd l0 x5_1) != (rd l1 x5_1)) = false := bne_eq_false_iff_eq.mpr c7
        clear c7
        have H' := Zm H
        clear H
        have p166 : 0 ≤ (x5_1 : Int) := Zo (by first | (with_reducible assumption) | assumption)
        have q166 : x5_1 < (l0.length : Int) := Zo (by first | (with_reducible assumption) | assumption)
        obtain ⟨ad166, e166, hx166_0⟩ := Kd.at_int HR0.out x5_1 p166 q166
        cases e166
        replace p166 := eq_true p166
        replace q166 := eq_true q166
        have p167 : 0 ≤ (x5_1 : Int) := Zo (by first | (with_reducible assumption) | assumption)
        have q167 : x5_1 < (l1.length : Int) := Zo (by first | (with_reducible assumption) | assumption)
        obtain ⟨ad167, e167, hx167_0⟩ := Kd.at_int HR1.out x5_1 p167 q167
        cases e167
        replace p167 := eq_true p167
        replace q167 := eq_true q167
        go_wp2
        repeat (go_quiet (fail); try go_wp2)
        go_roundg k1
        case measure => have := HK1.out; omega
        case rel => exact ⟨(wrap64 (x5_1 + 1)), (by first | rfl | (simp; done) | (simp [*]; done)), H', ⟨by have := HK1.out; omega⟩, by repeat (first | exact Drawn0.refl _ | apply Drawn0.step)⟩
       ·rw [if_neg c7] at H
        have c7b0 : ((rd l0 x5_1) == (rd l1 x5_1)) = false := beq_eq_false_iff_ne.mpr c7
        have c7b1 : ((rd l0 x5_1) != (rd l1 x5_1)) = true := bne_iff_ne.mpr c7
        obtain rfl := Option.some.inj H
        have p166 : 0 ≤ (x5_1 : Int) := Zo (by first | (with_reducible assumption) | assumption)
        have q166 : x5_1 < (l0.length : Int) := Zo (by first | (with_reducible assumption) | assumption)
        obtain ⟨ad166, e166, hx166_0⟩ := Kd.at_int HR0.out x5_1 p166 q166
        cases e166
        replace p166 := eq_true p166
        replace q166 := eq_true q166
        have p167 : 0 ≤ (x5_1 : Int) := Zo (by first | (with_reducible assumption) | assumption)
        have q167 : x5_1 < (l1.length : Int) := Zo (by first | (with_reducible assumption) | assumption)
        obtain ⟨ad167, e167, hx167_0⟩ := Kd.at_int HR1.out x5_1 p167 q167
        cases e167
        replace p167 := eq_true p167
        replace q167 := eq_true q167
        go_wp2
        repeat (go_quiet (fail); try go_wp2)
        go_ret
        exact ⟨by first | rfl | (simp; done) | (simp [*]; done), by repeat (first | exact Drawn0.refl _ | apply Drawn0.step)⟩
      ·rw [if_neg c6] at H
       exact absurd H (by simp)
     ·rw [if_neg c5] at H
      exact absurd H (by simp)
    ·rw [if_neg c4] at H
     have c4b0 : decide (x5_1 < (l0.length : Int)) = false := decide_eq_false c4
     clear c4
     obtain rfl := Option.some.inj H
     go_wp2
     repeat (go_quiet (fail); try go_wp2)
     go_ret
     exact ⟨by first | rfl | (simp; done) | (simp [*]; done), by repeat (first | exact Drawn0.refl _ | apply Drawn0.step)⟩
 ·rw [if_neg c3] at H
  have c3b0 : ((l0.length : Int) == (l1.length : Int)) = false := beq_eq_false_iff_ne.mpr c3
  have c3b1 : ((l0.length : Int) != (l1.length : Int)) = true := bne_iff_ne.mpr c3
  have c3b2 : (l0.length == l1.length) = false := by first | simpa using c3 | (simp at c3 ⊢; omega)
  obtain rfl := Option.some.inj H
  go_enter Try.func17, Try.ntmps17
  go_wp2
  repeat (go_quiet (fail); try go_wp2)
  go_ret
  exact ⟨by first | rfl | (simp; done) | (simp [*]; done), by repeat (first | exact Drawn0.refl _ | apply Drawn0.step)⟩
/-! ### lcs_Numbers: function 31 -/
def lcs_Numbers.has (l : List ByteArray) (s : ByteArray) : Bool := l.any (fun t => t.data.toList == s.data.toList)
def lcs_Numbers.ix (l : List ByteArray) (s : ByteArray) : Nat := l.findIdx (fun t => t.data.toList == s.data.toList)
mutual
def lcs_Numbers.l0 : Nat → List (List ByteArray) → List ByteArray → List (List Int) → Int → Option ((List (List Int)))
 | 0, _, _, _, _ => none
 | k + 1, x0, x3, x4, x15 => if x15 < (x0.length : Int) then (if 0 ≤ x15 then (lcs_Numbers.l1 k x0 x3 x4 x15 ([] : List Int) 0) else (none)) else (some x4)
def lcs_Numbers.l1 : Nat → List (List ByteArray) → List ByteArray → List (List Int) → Int → List Int → Int → Option ((List (List Int)))
 | 0, _, _, _, _, _, _ => none
 | k + 1, x0, x3, x4, x15, x7, x21 => if x21 < ((rd_L9 x0 x15).length : Int) then (if 0 ≤ x21 then (if (rdOf ByteArray.empty (rd_L9 x0 x15) x21).size ≤ 140737488355328 then (if x7.length < 17592186044416 then (if x3.length < 17592186044416 then (if lcs_Numbers.has x3 (rdOf ByteArray.empty (rd_L9 x0 x15) x21) = true then (lcs_Numbers.l1 k x0 x3 x4 x15 (x7 ++ [(lcs_Numbers.ix x3 (rdOf ByteArray.empty (rd_L9 x0 x15) x21) : Int)]) (wrap64 (x21 + 1))) else (lcs_Numbers.l1 k x0 (x3 ++ [rdOf ByteArray.empty (rd_L9 x0 x15) x21]) x4 x15 (x7 ++ [(x3.length : Int)]) (wrap64 (x21 + 1)))) else (none)) else (none)) else (none)) else (none)) else (if x4.length < 5864062014805 then (lcs_Numbers.l0 k x0 x3 (x4 ++ [x7]) (wrap64 (x15 + 1))) else (none))
end
def lcs_Numbers.f (k : Nat) (l0 : List (List ByteArray)) : Option ((List (List Int))) := lcs_Numbers.l0 k l0 ([] : List ByteArray) ([] : List (List Int)) 0
theorem lcs_Numbers.mono_l : ∀ k, (∀ y0 y1 y2 y3, LeO (lcs_Numbers.l0 k y0 y1 y2 y3) (lcs_Numbers.l0 (k + 1) y0 y1 y2 y3)) ∧ (∀ y0 y1 y2 y3 y4 y5, LeO (lcs_Numbers.l1 k y0 y1 y2 y3 y4 y5) (lcs_Numbers.l1 (k + 1) y0 y1 y2 y3 y4 y5))
 | 0 => ⟨fun _ _ _ _ r h => by simp [lcs_Numbers.l0] at h, fun _ _ _ _ _ _ r h => by simp [lcs_Numbers.l1] at h⟩
 | k + 1 => by
  obtain ⟨ih0, ih1⟩ := lcs_Numbers.mono_l k
  refine ⟨?_, ?_⟩
  ·intro y0 y1 y2 y3
   unfold lcs_Numbers.l0
   repeat' first
   | (with_reducible exact ih0 _ _ _ _)
   | (with_reducible exact ih1 _ _ _ _ _ _)
   | (with_reducible exact LeO.refl _)
   | (with_reducible exact LeO.none _)
   | (with_reducible refine LeO.ite ?_ ?_)
  ·intro y0 y1 y2 y3 y4 y5
   unfold lcs_Numbers.l1
   repeat' first
   | (with_reducible exact ih0 _ _ _ _)
   | (with_reducible exact ih1 _ _ _ _ _ _)
   | (with_reducible exact LeO.refl _)
   | (with_reducible exact LeO.none _)
   | (with_reducible refine LeO.ite ?_ ?_)
theorem lcs_Numbers.mono : ∀ a0 k, LeO (lcs_Numbers.f k a0) (lcs_Numbers.f (k + 1) a0) := fun _ k => (lcs_Numbers.mono_l k).1 _ _ _ _
/-! the map, as the list of what was seen -/
def lcs_Numbers.Is (D : DataW Unit) (l : List ByteArray) : Prop :=
 Maps.Tidy D ∧ Maps.size D = l.length ∧ ∀ s : ByteArray, Maps.has D (.string s.data.toList) = lcs_Numbers.has l s ∧ (lcs_Numbers.has l s = true → D.atKey (.string s.data.toList) (.lit (.int .i64 0)) = .lit (.int .i64 (lcs_Numbers.ix l s)))
theorem lcs_Numbers.is_nil : lcs_Numbers.Is (.map []) [] := ⟨Maps.tidy_empty, rfl, fun s => ⟨rfl, fun h => by simp [lcs_Numbers.has] at h⟩⟩
theorem lcs_Numbers.is_put {D : DataW Unit} {l : List ByteArray} {s : ByteArray} (h : lcs_Numbers.Is D l) (hn : lcs_Numbers.has l s = false) :
  lcs_Numbers.Is (D.put (.string s.data.toList) (.lit (.int .i64 (l.length : Int)))) (l ++ [s]) := by
 obtain ⟨h1, h2, h3⟩ := h
 have hk : WideAt.IsKeyLit (.string s.data.toList) := trivial
 refine ⟨h1.put hk _, ?_, fun t => ?_⟩
 ·rw [Maps.size_put h1, (h3 s).1, hn, h2]; simp
 ·by_cases e : t.data.toList = s.data.toList
  ·rw [e, Maps.has_put_same h1.isMap hk, Maps.atKey_put_same h1.isMap hk]
   have hn' : lcs_Numbers.has l t = false := by rw [← hn]; simp [lcs_Numbers.has, e]
   refine ⟨by simp [lcs_Numbers.has, e], fun _ => ?_⟩
   have : lcs_Numbers.ix (l ++ [s]) t = l.length := by
    unfold lcs_Numbers.ix
    rw [List.findIdx_append, if_neg]
    ·simp [List.findIdx_cons, e]
    ·unfold lcs_Numbers.has at hn'
     simp only [List.any_eq_false] at hn'
     intro hc
     obtain ⟨x, hx, hp⟩ := List.findIdx_lt_length.1 hc
     exact hn' x hx hp
   rw [this]
  ·have e' : (Lit.string t.data.toList) ≠ .string s.data.toList := fun h => e (by injection h)
   rw [Maps.has_put_other e', Maps.atKey_put_other e', (h3 t).1]
   have hb : (s.data.toList == t.data.toList) = false := beq_eq_false_iff_ne.2 (Ne.symm e)
   have hh : lcs_Numbers.has (l ++ [s]) t = lcs_Numbers.has l t := by
    unfold lcs_Numbers.has
    rw [List.any_append, List.any_cons, List.any_nil, hb, Bool.or_false, Bool.or_false]
   refine ⟨hh.symm, fun ht => ?_⟩
   have ht' : lcs_Numbers.has l t = true := hh ▸ ht
   rw [(h3 t).2 ht']
   have : lcs_Numbers.ix (l ++ [s]) t = lcs_Numbers.ix l t := by
    unfold lcs_Numbers.ix
    rw [List.findIdx_append, if_pos]
    unfold lcs_Numbers.has at ht'
    rw [List.any_eq_true] at ht'
    exact List.findIdx_lt_length.2 ht'
   rw [this]
theorem lcs_Numbers.mapBlock {P : Program} {key : TypeId} {R : Value → Option (DataW Unit × List MemPlace)} {w : World} {b n : Nat} {D : DataW Unit} (h : w.ownsMap P key R b n D) : ∃ es clock, w.heap[b]? = some (.map es clock) := by
 obtain ⟨es, clock, hb, _⟩ := h
 exact ⟨es, clock, hb⟩
theorem lcs_Numbers.map_ne {P : Program} {key : TypeId} {R : Value → Option (DataW Unit × List MemPlace)} {w : World} {b n e : Nat} {D : DataW Unit} {v : Value} (h : w.ownsMap P key R b n D) (hv : ∀ k, v.ownBlock = some k → ∃ cells, w.heap[k]? = some (.cells cells e (0, 0))) : some b ≠ v.ownBlock := by
 obtain ⟨es, clock, hb⟩ := lcs_Numbers.mapBlock h
 intro he
 obtain ⟨cells, hc⟩ := hv b he.symm
 rw [hb] at hc
 cases hc
theorem lcs_Numbers.row_keeps {α : Type} {d : Kd α} {e : Nat} {w w1 : World} {base : Nat} {ok : Nat → Prop} {v : Value} {xs : List α} {P : Program} {key : TypeId} {R : Value → Option (DataW Unit × List MemPlace)} {b n : Nat} {D : DataW Unit}
  (h : d.R e w base ok v xs) (hm : w.ownsMap P key R b n D) (hg : w.grownBy w1 (some b)) : d.R e w1 base ok v xs := by
 obtain ⟨es, clock, hb⟩ := lcs_Numbers.mapBlock hm
 refine Kd.R_mono (Kd.R_move (Kd.R_bound h) (fun k hk => hg.block k hk.2.2.1 (fun he => ?_))) (fun _ hk => hk.1)
 obtain ⟨_, _, _, q, hq, cells, hc⟩ := hk
 injection he with he
 subst he
 rw [hb] at hc
 cases hc
theorem lcs_Numbers.rows_keep {α : Type} {d : Kd α} {e : Nat} {w w1 : World} {base : Nat} {ok : Nat → Prop} {v : Value} {xs : List α} {P : Program} {key : TypeId} {R : Value → Option (DataW Unit × List MemPlace)} {b n : Nat} {D : DataW Unit}
  (h : Kd.S d e w base ok v xs) (hm : w.ownsMap P key R b n D) (hg : w.grownBy w1 (some b)) : Kd.S d e w1 base ok v xs := by
 obtain ⟨f, h⟩ := h
 exact ⟨f, lcs_Numbers.row_keeps h hm hg⟩
def lcs_Numbers.At (w : World) (b : Nat) (l : List ByteArray) : Prop := ∃ D : DataW Unit, w.ownsMap Try.prog 9 (plainElem Try.prog 3) b l.length D ∧ lcs_Numbers.Is D l
theorem lcs_Numbers.At.grown {w w1 : World} {b : Nat} {l : List ByteArray} {row : Option Nat} (h : lcs_Numbers.At w b l) (hg : w.grownBy w1 row) (hne : some b ≠ row) : lcs_Numbers.At w1 b l := by
 obtain ⟨D, ho, hi⟩ := h
 exact ⟨D, ho.kept hg hne, hi⟩
theorem lcs_Numbers.At.alloc {w : World} {b : Nat} {l : List ByteArray} (h : lcs_Numbers.At w b l) (o : Obj) : lcs_Numbers.At (w.alloc o) b l := by
 obtain ⟨D, ho, hi⟩ := h
 exact ⟨D, ho.alloc o, hi⟩
theorem lcs_Numbers.law : Maps.Keyed Try.prog 9 := Maps.string_keyed Try.underlying9
theorem lcs_Numbers.zero (w : World) : (zeroValue 3).run Try.prog w = .ok (.int .i64 0) w := by kernel_rfl
set_option maxHeartbeats 8000000 in
set_option maxRecDepth 100000 in
theorem lcs_Numbers.calls (k : Nat) (A0 : Option Addr) (c0 : Nat) (l0 : List (List ByteArray)) (r : List (List Int)) (w : World) (hr0 : Kd.C (Kd.slice 9 Kd.string) w A0 l0.length l0) (hc0 : l0.length ≤ c0) (h : lcs_Numbers.f k l0 = some r) :
  Calls Try.prog 31 #[.slice A0 l0.length c0] w fun e w' => ∃ v0_ : Value, e = .returned (v0_) ∧ Kd.S (Kd.slice 3 (Kd.int .i64)) 22 w' w.heap.size (fun _ => True) v0_ r ∧ Below w.heap.size w w' := by
 have HR0 := Zm hr0
 have HC0 := Zm hc0
 clear hr0 hc0
 have hmm := @run_makeMap Try.prog
 have H' := Zm (show lcs_Numbers.l0 k l0 ([] : List ByteArray) ([] : List (List Int)) 0 = some r from h)
 clear h
 go_enter Try.func31, Try.ntmps31
 go_wp2
 go_loopg [4, 15] k (fun kq v4 v15 w' => ∃ (x3 : List ByteArray) (x4 : List (List Int)) (x15 : Int), v15 = .int .i64 x15 ∧ Aside0 (lcs_Numbers.l0 kq l0 x3 x4 x15 = some r) ∧ Aside0 (kq ≤ k) ∧ Aside0 (lcs_Numbers.At w' w.heap.size x3) ∧ Aside0 (Kd.S (Kd.slice 3 (Kd.int .i64)) 22 w' w.heap.size (fun _ => True) v4 x4) ∧ Aside0 (Below w.heap.size w w'))
 case atStart => exact ⟨[], [], 0, rfl, H', ⟨Nat.le_refl _⟩, ⟨⟨_, World.ownsMap_made _ _ _ _, lcs_Numbers.is_nil⟩⟩, ⟨Kd.S_nil _ _ _ _ _⟩, ⟨(Below.refl _ _).alloc (Nat.le_refl _) _⟩⟩
 case round =>
  clear H' hmm
  obtain ⟨x3, x4, x15, rfl, HA, HK1, HM, HO4, HB⟩ := hrel
  cases gk with
  | zero => exact absurd HA.out (by simp [lcs_Numbers.l0])
  | succ k1 =>
   have H := HA.out
   clear HA
   simp only [lcs_Numbers.l0] at H
   by_cases c1 : x15 < (l0.length : Int)
   ·rw [if_pos c1] at H
    by_cases c2 : 0 ≤ x15
    ·rw [if_pos c2] at H
     have H' := Zm H
     clear H
     obtain ⟨ad, A1, cc1, e1, hx1, hl1, hi1⟩ := at_L9 HR0.out x15 c2 c1
     cases e1
     replace hx1 := (HB.out.cell (World.block_lt_of_cell? w _ hx1)).trans hx1
     have HR1 := Zm hi1
     clear hi1 hl1
     have c1b : decide (x15 < (l0.length : Int)) = true := decide_eq_true c1
     have c2b : decide (0 ≤ x15) = true := decide_eq_true c2
     replace c1 := eq_true c1
     replace c2 := eq_true c2
     go_wp2
     go_loopg [7, 21] k1 (fun kq v7 v21 w' => ∃ (x3' : List ByteArray) (x7 : List Int) (x21 : Int), v21 = .int .i64 x21 ∧ Aside0 (lcs_Numbers.l1 kq l0 x3' x4 x15 x7 x21 = some r) ∧ Aside0 (kq ≤ k1) ∧ Aside0 (lcs_Numbers.At w' w.heap.size x3') ∧ Aside0 (Kd.S (Kd.slice 3 (Kd.int .i64)) 22 w' w.heap.size (fun k_ => some k_ ≠ (v7 : Value).ownBlock) u4 x4) ∧ Aside0 (Kd.R (Kd.int .i64) 3 w' w.heap.size (fun _ => True) v7 x7) ∧ Aside0 (Below w.heap.size w w'))
     case atStart => exact ⟨x3, [], 0, rfl, H', ⟨Nat.le_refl _⟩, ⟨HM.out⟩, ⟨Kd.S_mono HO4.out (fun _ _ => by simp [Value.ownBlock])⟩, ⟨Kd.R_nil _ _ _ _ _⟩, ⟨HB.out⟩⟩
     case round =>
      clear H' hx1
      obtain ⟨x3, x7, x21, rfl, HA, HK2, HM, HO4, HO7, HB⟩ := hrel
      cases gk with
      | zero => exact absurd HA.out (by simp [lcs_Numbers.l1])
      | succ k2 =>
       have H := HA.out
       clear HA
       simp only [lcs_Numbers.l1] at H
       by_cases c3 : x21 < ((rd_L9 l0 x15).length : Int)
       ·rw [if_pos c3] at H
        by_cases c4 : 0 ≤ x21
        ·rw [if_pos c4] at H
         obtain ⟨ad2, e2, hx2⟩ := Kd.at_string HR1.out x21 c4 c3
         cases e2
         replace hx2 := (HB.out.cell (World.block_lt_of_cell? w _ hx2)).trans hx2
         generalize rdOf ByteArray.empty (rd_L9 l0 x15) x21 = s at H hx2
         by_cases c5 : s.size ≤ 140737488355328
         ·rw [if_pos c5] at H
          by_cases c6 : x7.length < 17592186044416
          ·rw [if_pos c6] at H
           by_cases c7 : x3.length < 17592186044416
           ·rw [if_pos c7] at H
            obtain ⟨D, hown, hD⟩ := HM.out
            have hkey : keyOf Try.prog 9 (.string s) = some (.string s.data.toList) := Go.WideMaps.keyOf_string_mk Try.underlying9 (by unfold maxLen; omega)
            have HS := Zm hD
            have LM6 := Zm c6
            have LM7 := Zm c7
            clear hD c6 c7 c5
            have c3b : decide (x21 < ((rd_L9 l0 x15).length : Int)) = true := decide_eq_true c3
            have c4b : decide (0 ≤ x21) = true := decide_eq_true c4
            replace c3 := eq_true c3
            replace c4 := eq_true c4
            by_cases c8 : lcs_Numbers.has x3 s = true
            ·rw [if_pos c8] at H
             have hh : Maps.has D (.string s.data.toList) = true := (HS.out.2.2 s).1.trans c8
             have hat0 := Zm ((HS.out.2.2 s).2 c8)
             clear c8
             have H' := Zm H
             clear H
             go_wp2_with (first
              | (at_lookup; refine wpList_lookup_own_ok_int _ rfl _ _ 64 rfl 9 3 .i64 lcs_Numbers.law Try.underlying64 Try.underlying3 (lcs_Numbers.zero _) w.heap.size _ D rfl hown _ _ rfl hkey ?_; intro c hat hwc; obtain rfl : (lcs_Numbers.ix x3 s : Int) = c := (by have h_ := hat0.out.symm.trans hat; injection h_ with h_; injection h_); clear hat hwc)
              | ((with_reducible refine gate_builtin (b := .append) (xs := #[.tmp 38, .tmp 40]) rfl ?_); at_builtin; refine Kd.R_append (Kd.int .i64) (w0 := w) w.heap.size rfl (.tmp 38) (.tmp 40) 22 3 (.int .i64 0) 8 rfl Try.underlying22 info3 rfl (by decide) (by omega) u7 x7 (lcs_Numbers.ix x3 s : Int) [.int .i64 (lcs_Numbers.ix x3 s : Int)] (fun _ => True) (fun _ => False) rfl rfl rfl (fun _ hk => hk.elim) (fun _ _ => trivial) HO7.out HB.out (below_size HB.out) (by have := LM6.out; omega) ?_; intro v7 w7 ho hb hg hat))
             have hm1 := (show lcs_Numbers.At wr w.heap.size x3 from ⟨D, hown, HS.out⟩).alloc (.cells [Value.int .i64 (lcs_Numbers.ix x3 s : Int)].toArray 3)
             have hne := lcs_Numbers.map_ne hown (Kd.R_typed HO7.out)
             go_roundg k2
             case measure => have := HK2.out; omega
             case rel => exact ⟨x3, x7 ++ [(lcs_Numbers.ix x3 s : Int)], wrap64 (x21 + 1), rfl, H', ⟨by have := HK2.out; omega⟩, ⟨HM.out.grown hg hne⟩, ⟨Kd.S_mono (Kd.S_after (ok := fun _ => True) (Kd.S_mono HO4.out (fun _ hk => ⟨trivial, hk⟩)) hg hat) (fun _ hk => hk.2)⟩, ⟨ho⟩, ⟨hb⟩⟩
            ·rw [if_neg c8] at H
             have c8' : lcs_Numbers.has x3 s = false := Bool.eq_false_iff.2 c8
             have hh : Maps.has D (.string s.data.toList) = false := (HS.out.2.2 s).1.trans c8'
             have HC8 := Zm c8'
             have hsz := Zm HS.out.2.1
             clear c8 c8'
             have H' := Zm H
             clear H
             go_wp2_with (first
              | (at_lookup; refine wpList_lookup_own_ok_int _ rfl _ _ 64 rfl 9 3 .i64 lcs_Numbers.law Try.underlying64 Try.underlying3 (lcs_Numbers.zero _) w.heap.size _ D rfl hown _ _ rfl hkey ?_; intro c hat hwc; clear hat hwc)
              | (at_len; refine wpList_len_own _ rfl _ 64 rfl 9 3 Try.underlying64 _ w.heap.size _ D rfl hown ?_; rw [hsz.out])
              | (at_mapUpdate; refine wpList_mapUpdate_own _ rfl _ _ _ 64 rfl 9 3 lcs_Numbers.law Try.underlying64 _ w.heap.size _ D rfl hown (by have := LM7.out; unfold maxLen; omega) _ _ _ rfl rfl hkey _ [] (plainElem_int Try.underlying3 (WalkArith.wf_i64 (by have := LM7.out; omega))) ?_; intro w1 hown1 hg1; have n4_ := Zm (lcs_Numbers.rows_keep HO4.out hown hg1); have n7_ := Zm (lcs_Numbers.row_keeps HO7.out hown hg1); have nb_ := Zm (HB.out.grown hg1 HB.out.size (fun k_ e_ => by cases e_; exact Nat.le_refl _)); clear HO4 HO7 HB; have HO4 := n4_; have HO7 := n7_; have HB := nb_; clear n4_ n7_ nb_)
              | ((with_reducible refine gate_builtin (b := .append) (xs := #[.tmp 38, .tmp 40]) rfl ?_); at_builtin; refine Kd.R_append (Kd.int .i64) (w0 := w) w.heap.size rfl (.tmp 38) (.tmp 40) 22 3 (.int .i64 0) 8 rfl Try.underlying22 info3 rfl (by decide) (by omega) u7 x7 (x3.length : Int) [.int .i64 (x3.length : Int)] (fun _ => True) (fun _ => False) rfl rfl rfl (fun _ hk => hk.elim) (fun _ _ => trivial) HO7.out HB.out (below_size HB.out) (by have := LM6.out; omega) ?_; intro v7 w7 ho hb hg hat))
             have hne := lcs_Numbers.map_ne hown1 (Kd.R_typed HO7.out)
             have hm1 : lcs_Numbers.At w1 w.heap.size (x3 ++ [s]) := ⟨_, (by rw [List.length_append]; exact hown1), lcs_Numbers.is_put HS.out HC8.out⟩
             go_roundg k2
             case measure => have := HK2.out; omega
             case rel => exact ⟨x3 ++ [s], x7 ++ [(x3.length : Int)], wrap64 (x21 + 1), rfl, H', ⟨by have := HK2.out; omega⟩, ⟨hm1.grown hg hne⟩, ⟨Kd.S_mono (Kd.S_after (ok := fun _ => True) (Kd.S_mono HO4.out (fun _ hk => ⟨trivial, hk⟩)) hg hat) (fun _ hk => hk.2)⟩, ⟨ho⟩, ⟨hb⟩⟩
           ·rw [if_neg c7] at H
            exact absurd H (by simp)
          ·rw [if_neg c6] at H
           exact absurd H (by simp)
         ·rw [if_neg c5] at H
          exact absurd H (by simp)
        ·rw [if_neg c4] at H
         exact absurd H (by simp)
       ·rw [if_neg c3] at H
        have c3b : decide (x21 < ((rd_L9 l0 x15).length : Int)) = false := decide_eq_false c3
        clear c3
        by_cases c6 : x4.length < 5864062014805
        ·rw [if_pos c6] at H
         have LM6 := Zm c6
         clear c6
         have H' := Zm H
         clear H
         have hty := Zm (Kd.S_typed HO4.out)
         obtain ⟨Ao, co, eo⟩ := Kd.R_slice HO7.out
         subst eo
         go_wp2_with ((with_reducible refine gate_builtin (b := .append) (xs := #[.tmp 43, .tmp 45]) rfl ?_); at_builtin; refine Kd.S_append (Kd.slice 3 (Kd.int .i64)) (w0 := w) w.heap.size rfl (.tmp 43) (.tmp 45) 53 22 (.slice none 0 0) 24 rfl Try.underlying53 info22 rfl (by decide) (by omega) u4 x4 x7 [.slice Ao x7.length co] (fun _ => True) (fun k_ => some k_ = (.slice Ao x7.length co : Value).ownBlock) rfl rfl ?aP (fun k_ hk_ => ((Kd.R_mono (ok' := fun k_ => ((fun _ => True)) k_ ∧ some k_ ≠ (u4 : Value).ownBlock) (Kd.R_apart' (HO7.out) (Kd.S_typed HO4.out) (by decide)) (fun k_ hk => ⟨trivial, hk.2⟩))).1 k_ hk_.symm) (fun _ _ => trivial) (Kd.S_mono HO4.out (fun k_ hk => ⟨trivial, fun e_ => hk e_⟩)) HB.out (below_size HB.out) (by have := LM6.out; omega) ?_; (case aP => exact Kd.M_row (Kd.R_mono (Kd.R_tight rfl (Kd.R_mono (ok' := fun k_ => ((fun _ => True)) k_ ∧ some k_ ≠ (u4 : Value).ownBlock) (Kd.R_apart' (HO7.out) (Kd.S_typed HO4.out) (by decide)) (fun k_ hk => ⟨trivial, hk.2⟩))) (fun _ h_ => h_))); intro v4 w4 ho hb hg hat)
         have hne : some w.heap.size ≠ (u4 : Value).ownBlock := by obtain ⟨D, hown, _⟩ := HM.out; exact lcs_Numbers.map_ne hown hty.out
         go_roundg k2
         case measure => have := HK1.out; have := HK2.out; omega
         case rel => exact ⟨x3, x4 ++ [x7], wrap64 (x15 + 1), rfl, H', ⟨by have := HK1.out; have := HK2.out; omega⟩, ⟨HM.out.grown hg hne⟩, ⟨ho⟩, ⟨hb⟩⟩
        ·rw [if_neg c6] at H
         exact absurd H (by simp)
    ·rw [if_neg c2] at H
     exact absurd H (by simp)
   ·rw [if_neg c1] at H
    have c1b : decide (x15 < (l0.length : Int)) = false := decide_eq_false c1
    obtain rfl := Option.some.inj H
    go_wp2
    go_ret
    exact ⟨_, rfl, HO4.out, HB.out⟩
end Go.Proofs.Yteafndooaokagaa.PDiff
