/- Laid by a program of this session out of the seat's translation. -/
import Derived.Test.YthgmnnlnggalgaaPLinesx0
import Derived.Test.YthgmnnlnggalgaaPLinesx1
namespace Go.Proofs.Ythgmnnlnggalgaa.PLines
open Go.RowKit Go.Proofs.YthgmnnlnggalgaaW.PrintWords Go.Proofs.YthgmnnlnggalgaaW.PrintLast Go.Proofs.YthgmnnlnggalgaaW.PrintMore
attribute [local go_sem] max2_int min2_int max_two min_two max_three min_three max_four min_four   -- for this text's walks alone
set_option linter.unusedVariables false
set_option linter.unusedSimpArgs false

/-! ### lines_Start: function 19 -/
theorem boxed_kept {W W' : World} {row : Option Nat} {B : Nat} {t : TypeId} {v : Value} (h : Boxed W B t v) (hg : W.grownBy W' row) (hr : ∀ r, row = some r → ∃ o : Obj, W.heap[r]? = some o ∧ o.isCells = false) : Boxed W' B t v :=
  h.kept hg (fun e => by
    obtain ⟨o, ho, hc⟩ := hr B e.symm
    rw [show W.heap[B]? = _ from h] at ho; cases ho; cases hc)
theorem boxed_far {W : World} {B B' : Nat} {t : TypeId} {v : Value} (h : Boxed W B t v) (hne : B ≠ B') (u : Value) : Boxed (W.setCell ⟨B', 0, none⟩ u) B t v :=
  h.kept (grownBy_setCell' W B' u) (fun e => hne (by injection e))
section
attribute [local go_sem] Oper.semAt_some
def lines_Start.f (s : ByteArray) (line : Int) : Option (Int × Bool) :=
  if s.size ≤ 1000000 then
    (if 1 ≤ line ∧ line ≤ (lines_all.items s s.size 0).length then some ((((lines_all.items s s.size 0).getD (line - 1).toNat (0, ByteArray.empty)).1 : Int), true)
     else if line = (lines_all.items s s.size 0).length + 1 then (lines_ended.f s).bind fun e => some (if e = true then ((s.size : Int), true) else (0, false))
     else some (0, false))
  else none
set_option maxRecDepth 100000 in
set_option maxHeartbeats 2000000 in
theorem lines_Start.run (s : ByteArray) (line : Int) (r1 : Int) (r2 : Bool) (w : World) (h : lines_Start.f s line = some (r1, r2)) :
    CallsIn Fence.wide 5 Try.prog 19 #[.string s, .int .i64 line] w fun e W' => e = .returned (.tuple #[.int .i64 r1, .bool r2]) ∧ Below w.heap.size w W' := by
  unfold lines_Start.f at h
  split at h
  case isFalse => cases h
  rename_i hs
  refine callsIn_of_wp_marks Try.func19 rfl trivial ?_ rfl
  simp only [Try.ntmps19, List.size_toArray, List.length_cons, List.length_nil, Nat.reduceAdd, Nat.reduceSub, Array.replicate_succ, Array.replicate_zero, List.push_toArray, List.append_toArray, List.nil_append, List.cons_append]
  gi_wp2_with (refine ⟨trivial, ?_⟩; gi_at_call 21; refine (lines_all.make _ _).mono ?_; rintro e w' ⟨rfl, rfl⟩)
  have b0 := Boxed.new w 3 (.int .i64 line)
  obtain ⟨w1, hw1⟩ : ∃ x, w.alloc (.cells #[.int .i64 line] 3) = x := ⟨_, rfl⟩
  have s1 : w1.heap.size = w.heap.size + 1 := by rw [← hw1]; simp
  rw [hw1] at b0 ⊢
  have b1 := Boxed.new w1 3 (.int .i64 0)
  have b0 := b0.alloc (.cells #[.int .i64 0] 3)
  obtain ⟨w2, hw2⟩ : ∃ x, w1.alloc (.cells #[.int .i64 0] 3) = x := ⟨_, rfl⟩
  have s2 : w2.heap.size = w.heap.size + 1 + 1 := by rw [← hw2]; simp [s1]
  rw [hw2] at b0 b1 ⊢
  have b2 := Boxed.new w2 4 (.bool false)
  have b0 := b0.alloc (.cells #[.bool false] 4)
  have b1 := b1.alloc (.cells #[.bool false] 4)
  obtain ⟨w3, hw3⟩ : ∃ x, w2.alloc (.cells #[.bool false] 4) = x := ⟨_, rfl⟩
  have s3 : w3.heap.size = w.heap.size + 1 + 1 + 1 := by rw [← hw3]; simp [s2]
  rw [hw3] at b0 b1 b2 ⊢
  have b3 := Boxed.new w3 3 (.int .i64 0)
  have b0 := b0.alloc (.cells #[.int .i64 0] 3)
  have b1 := b1.alloc (.cells #[.int .i64 0] 3)
  have b2 := b2.alloc (.cells #[.int .i64 0] 3)
  obtain ⟨w4, hw4⟩ : ∃ x, w3.alloc (.cells #[.int .i64 0] 3) = x := ⟨_, rfl⟩
  have s4 : w4.heap.size = w.heap.size + 1 + 1 + 1 + 1 := by rw [← hw4]; simp [s3]
  rw [hw4] at b0 b1 b2 b3 ⊢
  have b4 := Boxed.new w4 9 (.string s)
  have b0 := b0.alloc (.cells #[.string s] 9)
  have b1 := b1.alloc (.cells #[.string s] 9)
  have b2 := b2.alloc (.cells #[.string s] 9)
  have b3 := b3.alloc (.cells #[.string s] 9)
  obtain ⟨w5, hw5⟩ : ∃ x, w4.alloc (.cells #[.string s] 9) = x := ⟨_, rfl⟩
  have s5 : w5.heap.size = w.heap.size + 1 + 1 + 1 + 1 + 1 := by rw [← hw5]; simp [s4]
  have hB0 : Below w.heap.size w w5 := by
    rw [← hw5, ← hw4, ← hw3, ← hw2, ← hw1]
    exact (((((Below.refl _ w).alloc (Nat.le_refl _) _).alloc (by simp) _).alloc (by simp; omega) _).alloc (by simp; omega) _).alloc (by simp; omega) _
  rw [hw5] at b0 b1 b2 b3 b4 ⊢
  rw [s1] at b1
  rw [s2] at b2
  rw [s3] at b3
  rw [s4] at b4
  clear hw1 hw2 hw3 hw4 hw5 s1 s2 s3 s4
  refine wpIn_rangeFunc_ownG rfl (by omega) (gf := 25) (lb := #[.pointer (some ⟨w.heap.size + 1 + 1 + 1 + 1, 0, none⟩)]) rfl trivial (enters_of Try.func25 (by kernel_rfl) rfl)
    (lines_all.stops (w.heap.size + 1 + 1 + 1 + 1) s hs w5 (by omega) b4.cell) lines_all.Kp_t (lines_all.Kp_b (fun k hk => by subst hk; omega)) (Below.refl _ _) (fun _ => rfl)
    (fun pre W => (Boxed W w.heap.size 3 (.int .i64 line) ∧ Boxed W (w.heap.size + 1) 3 (.int .i64 0) ∧ Boxed W (w.heap.size + 1 + 1) 4 (.bool false) ∧ Boxed W (w.heap.size + 1 + 1 + 1) 3 (.int .i64 (pre.length : Int)) ∧ ¬ (1 ≤ line ∧ line ≤ pre.length)) ∧ Below w.heap.size w W)
    (fun c pre W => (∃ (pre' : List (Nat × ByteArray)) (x : Nat × ByteArray), c = .ret ∧ pre = pre' ++ [x] ∧ line = pre'.length + 1 ∧ Boxed W (w.heap.size + 1) 3 (.int .i64 (x.1 : Int)) ∧ Boxed W (w.heap.size + 1 + 1) 4 (.bool true)) ∧ Below w.heap.size w W)
    (OwnFrom.and (Own.from (fun pre X Y row hx hg hr => ⟨boxed_kept hx.1 hg hr, boxed_kept hx.2.1 hg hr, boxed_kept hx.2.2.1 hg hr, boxed_kept hx.2.2.2.1 hg hr, hx.2.2.2.2⟩) _) (ownFrom_below (Nat.le_refl _) (by omega)))
    (fun c => OwnFrom.and (Own.from (fun pre X Y row hx hg hr => by obtain ⟨p', x, h1, h2, h3, h4, h5⟩ := hx; exact ⟨p', x, h1, h2, h3, boxed_kept h4 hg hr, boxed_kept h5 hg hr⟩) _) (ownFrom_below (Nat.le_refl _) (by omega)))
    ⟨⟨b0, b1, b2, b3, by simp; omega⟩, hB0⟩
    (fun x => { tmps := #[.string s, .int .i64 line, undef, .pointer (some ⟨w.heap.size, 0, none⟩), .pointer (some ⟨w.heap.size + 1, 0, none⟩), .pointer (some ⟨w.heap.size + 1 + 1, 0, none⟩), .pointer (some ⟨w.heap.size + 1 + 1 + 1, 0, none⟩), .int .i64 (x.1 : Int), .string s, .func (.func 25) #[] #[.pointer (some ⟨w.heap.size + 1 + 1 + 1 + 1, 0, none⟩)], .int .i64 (x.1 : Int), .string x.2, undef, undef, undef, undef, undef, undef, undef, undef, undef, undef, undef, undef, undef, undef, undef, undef], defers := [] }) ?assign ?body ?done ?stop
  case assign =>
    intro l x W K hK
    gi_wp2
    exact hK
  case body =>
    rintro l pre x W ⟨⟨c0, c1, c2, c3, hno⟩, hB⟩ hlt
    have e0 := c0.cell
    have e1 := c1.cell
    have e2 := c2.cell
    have e3 := c3.cell
    have f1 := c1.frozen
    have f2 := c2.frozen
    have f3 := c3.frozen
    gi_wp2
    · rename_i hx
      refine ⟨(((KeepsOthers.setCell _ _ _).trans (KeepsOthers.setCell _ _ _)).trans (KeepsOthers.setCell _ _ _)).from _, ⟨pre, x, rfl, rfl, (eq_of_beq hx).symm, ?_, ?_⟩, ((hB.setCell (p := ⟨w.heap.size + 1 + 1 + 1, 0, none⟩) (by simp; omega) _).setCell (p := ⟨w.heap.size + 1, 0, none⟩) (by simp) _).setCell (p := ⟨w.heap.size + 1 + 1, 0, none⟩) (by simp; omega) _⟩
      · exact boxed_far ((boxed_far c1 (by omega) _).set _) (by omega) _
      · exact (boxed_far (boxed_far c2 (by omega) _) (by omega) _).set _
    · rename_i hx
      have hne : ¬ ((pre.length : Int) + 1 = line) := by intro e; rw [e] at hx; simp at hx
      refine ⟨(KeepsOthers.setCell _ _ _).from _, ?_, ⟨boxed_far c0 (by omega) _, boxed_far c1 (by omega) _, boxed_far c2 (by omega) _, by simpa using c3.set (.int .i64 ((pre.length : Int) + 1)), by simp; omega⟩, hB.setCell (p := ⟨w.heap.size + 1 + 1 + 1, 0, none⟩) (by simp; omega) _⟩
      rintro k rfl
      exact Below.heap_setCell _ _ _ _ (by simp)
  case done =>
    rintro D ys W hD rfl ⟨⟨c0, c1, c2, c3, hno⟩, hB⟩ hK
    have e0 := c0.cell
    have e1 := c1.cell
    have e2 := c2.cell
    have e3 := c3.cell
    have f1 := c1.frozen
    have f2 := c2.frozen
    rw [if_neg hno] at h
    have hlen := lines_all.items_length s s.size 0 (Nat.zero_le _)
    obtain ⟨N, hN⟩ : ∃ N, (lines_all.items s s.size 0).length = N := ⟨_, rfl⟩
    rw [hN] at h hno hlen c3 e3
    clear hN
    have hw1 : (N : Int) + 1 ≤ 1000001 := by omega
    by_cases hl : line = (N : Int) + 1
    · rw [if_pos hl] at h
      obtain ⟨e, he, h⟩ := Option.bind_eq_some_iff.1 h
      subst hl
      cases e with
      | true =>
        rw [if_pos rfl] at h
        cases h
        gi_wp2_with (refine ⟨trivial, ?_⟩; gi_at_call 23; refine (callsIn_wide.2 (lines_ended.calls s true _ he)).mono ?_; rintro _ w' ⟨rfl, ⟨n, rfl⟩⟩)
        have q1 : Boxed (((W.drewN n).setCell ⟨w.heap.size + 1, 0, none⟩ (.int .i64 (s.size : Int))).setCell ⟨w.heap.size + 1 + 1, 0, none⟩ (.bool true)) (w.heap.size + 1) 3 (.int .i64 (s.size : Int)) := boxed_far (Boxed.set _ (show Boxed (W.drewN n) _ _ _ from c1)) (by omega) _
        have q2 : Boxed (((W.drewN n).setCell ⟨w.heap.size + 1, 0, none⟩ (.int .i64 (s.size : Int))).setCell ⟨w.heap.size + 1 + 1, 0, none⟩ (.bool true)) (w.heap.size + 1 + 1) 4 (.bool true) := Boxed.set _ (boxed_far (show Boxed (W.drewN n) _ _ _ from c2) (by omega) _)
        have hK' := ((KeepsOthers.setCell (W.drewN n) ⟨w.heap.size + 1, 0, none⟩ (.int .i64 (s.size : Int))).trans (KeepsOthers.setCell _ ⟨w.heap.size + 1 + 1, 0, none⟩ (.bool true))).same D _ hK rfl
        have p1 := (boxed_kept q1 (grownBy_putObj' _ D (.deferred none)) (fun r e => by cases e; exact ⟨_, hK', rfl⟩)).cell
        have p2 := (boxed_kept q2 (grownBy_putObj' _ D (.deferred none)) (fun r e => by cases e; exact ⟨_, hK', rfl⟩)).cell
        refine ⟨by simp, .inl ⟨_, _, rfl, run_takeDeferred hK', ?_⟩⟩
        refine ⟨.tuple #[.int .i64 (s.size : Int), .bool true], ?_, rfl, (((hB.trans (Drawn0.below ⟨⟨n, rfl⟩⟩ |>.mono hB.size)).setCell (p := ⟨w.heap.size + 1, 0, none⟩) (by simp) _).setCell (p := ⟨w.heap.size + 1 + 1, 0, none⟩) (by simp; omega) _).trans (belowK_b (w := w5) (by omega) _ D _ _ (by omega) hK' rfl rfl)⟩
        simp [results, Try.f19, go_sem, p1, p2]
      | false =>
        rw [if_neg (by decide)] at h
        cases h
        gi_wp2_with (refine ⟨trivial, ?_⟩; gi_at_call 23; refine (callsIn_wide.2 (lines_ended.calls s false _ he)).mono ?_; rintro _ w' ⟨rfl, ⟨n, rfl⟩⟩)
        have q1 : Boxed (((W.drewN n).setCell ⟨w.heap.size + 1, 0, none⟩ (.int .i64 0)).setCell ⟨w.heap.size + 1 + 1, 0, none⟩ (.bool false)) (w.heap.size + 1) 3 (.int .i64 0) := boxed_far (Boxed.set _ (show Boxed (W.drewN n) _ _ _ from c1)) (by omega) _
        have q2 : Boxed (((W.drewN n).setCell ⟨w.heap.size + 1, 0, none⟩ (.int .i64 0)).setCell ⟨w.heap.size + 1 + 1, 0, none⟩ (.bool false)) (w.heap.size + 1 + 1) 4 (.bool false) := Boxed.set _ (boxed_far (show Boxed (W.drewN n) _ _ _ from c2) (by omega) _)
        have hK' := ((KeepsOthers.setCell (W.drewN n) ⟨w.heap.size + 1, 0, none⟩ (.int .i64 0)).trans (KeepsOthers.setCell _ ⟨w.heap.size + 1 + 1, 0, none⟩ (.bool false))).same D _ hK rfl
        have p1 := (boxed_kept q1 (grownBy_putObj' _ D (.deferred none)) (fun r e => by cases e; exact ⟨_, hK', rfl⟩)).cell
        have p2 := (boxed_kept q2 (grownBy_putObj' _ D (.deferred none)) (fun r e => by cases e; exact ⟨_, hK', rfl⟩)).cell
        refine ⟨by simp, .inl ⟨_, _, rfl, run_takeDeferred hK', ?_⟩⟩
        refine ⟨.tuple #[.int .i64 0, .bool false], ?_, rfl, (((hB.trans (Drawn0.below ⟨⟨n, rfl⟩⟩ |>.mono hB.size)).setCell (p := ⟨w.heap.size + 1, 0, none⟩) (by simp) _).setCell (p := ⟨w.heap.size + 1 + 1, 0, none⟩) (by simp; omega) _).trans (belowK_b (w := w5) (by omega) _ D _ _ (by omega) hK' rfl rfl)⟩
        simp [results, Try.f19, go_sem, p1, p2]
    · rw [if_neg hl] at h
      cases h
      have hl' : (line == (N : Int) + 1) = false := by simpa using hl
      gi_wp2
      refine ⟨trivial, ?_⟩
      gi_wp2
      have q1 : Boxed ((W.setCell ⟨w.heap.size + 1, 0, none⟩ (.int .i64 0)).setCell ⟨w.heap.size + 1 + 1, 0, none⟩ (.bool false)) (w.heap.size + 1) 3 (.int .i64 0) := boxed_far (Boxed.set _ (show Boxed W _ _ _ from c1)) (by omega) _
      have q2 : Boxed ((W.setCell ⟨w.heap.size + 1, 0, none⟩ (.int .i64 0)).setCell ⟨w.heap.size + 1 + 1, 0, none⟩ (.bool false)) (w.heap.size + 1 + 1) 4 (.bool false) := Boxed.set _ (boxed_far (show Boxed W _ _ _ from c2) (by omega) _)
      have hK' := ((KeepsOthers.setCell W ⟨w.heap.size + 1, 0, none⟩ (.int .i64 0)).trans (KeepsOthers.setCell _ ⟨w.heap.size + 1 + 1, 0, none⟩ (.bool false))).same D _ hK rfl
      have p1 := (boxed_kept q1 (grownBy_putObj' _ D (.deferred none)) (fun r e => by cases e; exact ⟨_, hK', rfl⟩)).cell
      have p2 := (boxed_kept q2 (grownBy_putObj' _ D (.deferred none)) (fun r e => by cases e; exact ⟨_, hK', rfl⟩)).cell
      refine ⟨by simp, .inl ⟨_, _, rfl, run_takeDeferred hK', ?_⟩⟩
      refine ⟨.tuple #[.int .i64 0, .bool false], ?_, rfl, ((hB.setCell (p := ⟨w.heap.size + 1, 0, none⟩) (by simp) _).setCell (p := ⟨w.heap.size + 1 + 1, 0, none⟩) (by simp; omega) _).trans (belowK_b (w := w5) (by omega) _ D _ _ (by omega) hK' rfl rfl)⟩
      simp [results, Try.f19, go_sem, p1, p2]
  case stop =>
    rintro D c pre W hD hpre ⟨⟨pre', x, rfl, rfl, hline, c1, c2⟩, hB⟩ hK
    obtain ⟨rest, hrest⟩ := hpre
    have hlen : 1 ≤ line ∧ line ≤ ((lines_all.items s s.size 0).length : Int) := by rw [← hrest]; simp; omega
    rw [if_pos hlen] at h
    have hget : (lines_all.items s s.size 0).getD (line - 1).toNat (0, ByteArray.empty) = x := by
      rw [← hrest, hline, show ((pre'.length : Int) + 1 - 1).toNat = pre'.length by omega]
      simp [List.getD_eq_getElem?_getD]
    rw [hget] at h
    cases h
    clear hlen hget hrest
    gi_wp2
    have p1 := (boxed_kept c1 (grownBy_putObj' _ D (.deferred none)) (fun r e => by cases e; exact ⟨_, hK, rfl⟩)).cell
    have p2 := (boxed_kept c2 (grownBy_putObj' _ D (.deferred none)) (fun r e => by cases e; exact ⟨_, hK, rfl⟩)).cell
    refine ⟨by simp, .inl ⟨_, _, rfl, run_takeDeferred hK, ?_⟩⟩
    refine ⟨.tuple #[.int .i64 (x.1 : Int), .bool true], ?_, rfl, hB.trans (belowK_b (w := w5) (by omega) _ D _ _ (by omega) hK rfl rfl)⟩
    simp [results, Try.f19, go_sem, p1, p2]
end
theorem lines_Start.calls (a0 : ByteArray) (a1 : Int) (r1 : Int) (r2 : Bool) (w : World) (h : lines_Start.f a0 a1 = some (r1, r2)) :
    Calls Try.prog 19 #[.string a0, .int .i64 a1] w fun e w' => e = .returned (.tuple #[.int .i64 r1, .bool r2]) ∧ Below w.heap.size w w' := callsIn_wide.1 (lines_Start.run a0 a1 r1 r2 w h)

/-! ### concordatlaw01_awake: function 8 -/
def concordatlaw01_awake.f (k : Nat)  : Option (Bool) := (lines_Split.f (⟨#[97, 10, 10, 98]⟩ : ByteArray)).bind fun t109 => ((lines_Place.f k (⟨#[97, 10, 10, 98]⟩ : ByteArray) 3).bind fun bt112 => ((lines_Start.f (⟨#[97, 10, 10, 98]⟩ : ByteArray) 3).bind fun bt114 => ((concordatref01_Same.f k t109 (([(⟨#[97, 10]⟩ : ByteArray), (⟨#[10]⟩ : ByteArray), (⟨#[98]⟩ : ByteArray)] : List ByteArray))).bind fun t119 => (if t119 = true then ((lines_Join.f t109).bind fun t120 => (if t120.toList = ([97, 10, 10, 98] : List UInt8) then ((lines_Count.f (⟨#[97, 10]⟩ : ByteArray)).bind fun t121 => (if t121 = 1 then (if bt112.1 = 3 then (if bt112.2 = 1 then (if bt114.1 = 3 then (if bt114.2 = true then ((lines_Whole.f (⟨#[97]⟩ : ByteArray)).bind fun t122 => (some (t122.toList == ([97, 10] : List UInt8)))) else (none)) else (none)) else (none)) else (none)) else (none))) else (none))) else (none)))))
theorem concordatlaw01_awake.mono : ∀ k, LeO (concordatlaw01_awake.f k ) (concordatlaw01_awake.f (k + 1) ) := by
  intro  k
  unfold concordatlaw01_awake.f
  repeat' first
      | (with_reducible exact concordatref01_Same.mono _ _ _)
      | (with_reducible exact lines_Place.mono _ _ _)
      | (with_reducible exact LeO.refl _)
      | (with_reducible exact LeO.none _)
      | (with_reducible refine LeO.ite ?_ ?_)
      | (with_reducible refine LeO.bind ?_ (fun _ => ?_))
      | exact concordatref01_Same.mono _ _ _
      | exact lines_Place.mono _ _ _
      | exact LeO.none _
      | refine LeO.ite ?_ ?_
      | refine LeO.bind ?_ (fun _ => ?_)
set_option maxHeartbeats 8000000 in
set_option maxRecDepth 100000 in
theorem concordatlaw01_awake.calls (k : Nat)  (r : Bool) (w : World) (h : concordatlaw01_awake.f k  = some r) :
    Calls Try.prog 8 #[] w fun e w' => e = .returned (.bool r) ∧ Below w.heap.size w w' := by
  have HB := Aside0.mk (Below.refl w.heap.size w)
  have H : ((lines_Split.f (⟨#[97, 10, 10, 98]⟩ : ByteArray)).bind fun t109 => ((lines_Place.f k (⟨#[97, 10, 10, 98]⟩ : ByteArray) 3).bind fun bt112 => ((lines_Start.f (⟨#[97, 10, 10, 98]⟩ : ByteArray) 3).bind fun bt114 => ((concordatref01_Same.f k t109 (([(⟨#[97, 10]⟩ : ByteArray), (⟨#[10]⟩ : ByteArray), (⟨#[98]⟩ : ByteArray)] : List ByteArray))).bind fun t119 => (if t119 = true then ((lines_Join.f t109).bind fun t120 => (if t120.toList = ([97, 10, 10, 98] : List UInt8) then ((lines_Count.f (⟨#[97, 10]⟩ : ByteArray)).bind fun t121 => (if t121 = 1 then (if bt112.1 = 3 then (if bt112.2 = 1 then (if bt114.1 = 3 then (if bt114.2 = true then ((lines_Whole.f (⟨#[97]⟩ : ByteArray)).bind fun t122 => (some (t122.toList == ([97, 10] : List UInt8)))) else (none)) else (none)) else (none)) else (none)) else (none))) else (none))) else (none)))))) = some r := h
  clear h
  replace H := Option.bind_eq_some_iff.mp H
  obtain ⟨t109, A10, H⟩ := H
  replace H : ((lines_Place.f k (⟨#[97, 10, 10, 98]⟩ : ByteArray) 3).bind fun bt112 => ((lines_Start.f (⟨#[97, 10, 10, 98]⟩ : ByteArray) 3).bind fun bt114 => ((concordatref01_Same.f k t109 (([(⟨#[97, 10]⟩ : ByteArray), (⟨#[10]⟩ : ByteArray), (⟨#[98]⟩ : ByteArray)] : List ByteArray))).bind fun t119 => (if t119 = true then ((lines_Join.f t109).bind fun t120 => (if t120.toList = ([97, 10, 10, 98] : List UInt8) then ((lines_Count.f (⟨#[97, 10]⟩ : ByteArray)).bind fun t121 => (if t121 = 1 then (if bt112.1 = 3 then (if bt112.2 = 1 then (if bt114.1 = 3 then (if bt114.2 = true then ((lines_Whole.f (⟨#[97]⟩ : ByteArray)).bind fun t122 => (some (t122.toList == ([97, 10] : List UInt8)))) else (none)) else (none)) else (none)) else (none)) else (none))) else (none))) else (none))))) = some r := H
  have A1 := Aside0.mk A10
  clear A10
  replace H := Option.bind_eq_some_iff.mp H
  obtain ⟨⟨t112, t113⟩, A20, H⟩ := H
  replace H : ((lines_Start.f (⟨#[97, 10, 10, 98]⟩ : ByteArray) 3).bind fun bt114 => ((concordatref01_Same.f k t109 (([(⟨#[97, 10]⟩ : ByteArray), (⟨#[10]⟩ : ByteArray), (⟨#[98]⟩ : ByteArray)] : List ByteArray))).bind fun t119 => (if t119 = true then ((lines_Join.f t109).bind fun t120 => (if t120.toList = ([97, 10, 10, 98] : List UInt8) then ((lines_Count.f (⟨#[97, 10]⟩ : ByteArray)).bind fun t121 => (if t121 = 1 then (if t112 = 3 then (if t113 = 1 then (if bt114.1 = 3 then (if bt114.2 = true then ((lines_Whole.f (⟨#[97]⟩ : ByteArray)).bind fun t122 => (some (t122.toList == ([97, 10] : List UInt8)))) else (none)) else (none)) else (none)) else (none)) else (none))) else (none))) else (none)))) = some r := H
  have A2 := Aside0.mk A20
  clear A20
  replace H := Option.bind_eq_some_iff.mp H
  obtain ⟨⟨t114, t115⟩, A30, H⟩ := H
  replace H : ((concordatref01_Same.f k t109 (([(⟨#[97, 10]⟩ : ByteArray), (⟨#[10]⟩ : ByteArray), (⟨#[98]⟩ : ByteArray)] : List ByteArray))).bind fun t119 => (if t119 = true then ((lines_Join.f t109).bind fun t120 => (if t120.toList = ([97, 10, 10, 98] : List UInt8) then ((lines_Count.f (⟨#[97, 10]⟩ : ByteArray)).bind fun t121 => (if t121 = 1 then (if t112 = 3 then (if t113 = 1 then (if t114 = 3 then (if t115 = true then ((lines_Whole.f (⟨#[97]⟩ : ByteArray)).bind fun t122 => (some (t122.toList == ([97, 10] : List UInt8)))) else (none)) else (none)) else (none)) else (none)) else (none))) else (none))) else (none))) = some r := H
  have A3 := Aside0.mk A30
  clear A30
  obtain ⟨y116, hy116⟩ : ∃ y_ : List ByteArray, y_ = (([(⟨#[97, 10]⟩ : ByteArray), (⟨#[10]⟩ : ByteArray), (⟨#[98]⟩ : ByteArray)] : List ByteArray)) := ⟨_, rfl⟩
  replace H : ((concordatref01_Same.f k t109 y116).bind fun t119 => (if t119 = true then ((lines_Join.f t109).bind fun t120 => (if t120.toList = ([97, 10, 10, 98] : List UInt8) then ((lines_Count.f (⟨#[97, 10]⟩ : ByteArray)).bind fun t121 => (if t121 = 1 then (if t112 = 3 then (if t113 = 1 then (if t114 = 3 then (if t115 = true then ((lines_Whole.f (⟨#[97]⟩ : ByteArray)).bind fun t122 => (some (t122.toList == ([97, 10] : List UInt8)))) else (none)) else (none)) else (none)) else (none)) else (none))) else (none))) else (none))) = some r := by first | (rw [hy116]; with_reducible exact H) | (have H2_ := (Option.bind_some _ _).symm.trans H; rw [hy116]; with_reducible exact H2_) | (have H2_ := (Option.bind_some _ _).symm.trans H; with_reducible exact H2_) | with_reducible exact H | (rw [hy116]; exact H) | exact H
  have Ny116 := Aside0.mk hy116
  clear hy116
  replace H := Option.bind_eq_some_iff.mp H
  obtain ⟨t119, A40, H⟩ := H
  replace H : (if t119 = true then ((lines_Join.f t109).bind fun t120 => (if t120.toList = ([97, 10, 10, 98] : List UInt8) then ((lines_Count.f (⟨#[97, 10]⟩ : ByteArray)).bind fun t121 => (if t121 = 1 then (if t112 = 3 then (if t113 = 1 then (if t114 = 3 then (if t115 = true then ((lines_Whole.f (⟨#[97]⟩ : ByteArray)).bind fun t122 => (some (t122.toList == ([97, 10] : List UInt8)))) else (none)) else (none)) else (none)) else (none)) else (none))) else (none))) else (none)) = some r := H
  have A4 := Aside0.mk A40
  clear A40
  by_cases c5 : t119 = true
  · subst c5
    have H1 : ((lines_Join.f t109).bind fun t120 => (if t120.toList = ([97, 10, 10, 98] : List UInt8) then ((lines_Count.f (⟨#[97, 10]⟩ : ByteArray)).bind fun t121 => (if t121 = 1 then (if t112 = 3 then (if t113 = 1 then (if t114 = 3 then (if t115 = true then ((lines_Whole.f (⟨#[97]⟩ : ByteArray)).bind fun t122 => (some (t122.toList == ([97, 10] : List UInt8)))) else (none)) else (none)) else (none)) else (none)) else (none))) else (none))) = some r := by rw [if_pos rfl] at H; exact H
    clear H
    have H := H1
    clear H1
    replace H := Option.bind_eq_some_iff.mp H
    obtain ⟨t120, A60, H⟩ := H
    replace H : (if t120.toList = ([97, 10, 10, 98] : List UInt8) then ((lines_Count.f (⟨#[97, 10]⟩ : ByteArray)).bind fun t121 => (if t121 = 1 then (if t112 = 3 then (if t113 = 1 then (if t114 = 3 then (if t115 = true then ((lines_Whole.f (⟨#[97]⟩ : ByteArray)).bind fun t122 => (some (t122.toList == ([97, 10] : List UInt8)))) else (none)) else (none)) else (none)) else (none)) else (none))) else (none)) = some r := H
    have A6 := Aside0.mk A60
    clear A60
    by_cases c7 : t120.toList = ([97, 10, 10, 98] : List UInt8)
    · rw [if_pos c7] at H
      have c7b0 : (t120.toList == ([97, 10, 10, 98] : List UInt8)) = true := beq_iff_eq.mpr c7
      have c7b1 : (t120.toList != ([97, 10, 10, 98] : List UInt8)) = false := bne_eq_false_iff_eq.mpr c7
      clear c7
      replace H := Option.bind_eq_some_iff.mp H
      obtain ⟨t121, A80, H⟩ := H
      replace H : (if t121 = 1 then (if t112 = 3 then (if t113 = 1 then (if t114 = 3 then (if t115 = true then ((lines_Whole.f (⟨#[97]⟩ : ByteArray)).bind fun t122 => (some (t122.toList == ([97, 10] : List UInt8)))) else (none)) else (none)) else (none)) else (none)) else (none)) = some r := H
      have A8 := Aside0.mk A80
      clear A80
      by_cases c9 : t121 = 1
      · rw [if_pos c9] at H
        have c9b0 : (t121 == 1) = true := beq_iff_eq.mpr c9
        have c9b1 : (t121 != 1) = false := bne_eq_false_iff_eq.mpr c9
        clear c9
        by_cases c10 : t112 = 3
        · rw [if_pos c10] at H
          have c10b0 : (t112 == 3) = true := beq_iff_eq.mpr c10
          have c10b1 : (t112 != 3) = false := bne_eq_false_iff_eq.mpr c10
          clear c10
          by_cases c11 : t113 = 1
          · rw [if_pos c11] at H
            have c11b0 : (t113 == 1) = true := beq_iff_eq.mpr c11
            have c11b1 : (t113 != 1) = false := bne_eq_false_iff_eq.mpr c11
            clear c11
            by_cases c12 : t114 = 3
            · rw [if_pos c12] at H
              have c12b0 : (t114 == 3) = true := beq_iff_eq.mpr c12
              have c12b1 : (t114 != 3) = false := bne_eq_false_iff_eq.mpr c12
              clear c12
              by_cases c13 : t115 = true
              · subst c13
                have H1 : ((lines_Whole.f (⟨#[97]⟩ : ByteArray)).bind fun t122 => (some (t122.toList == ([97, 10] : List UInt8)))) = some r := by rw [if_pos rfl] at H; exact H
                clear H
                have H := H1
                clear H1
                replace H := Option.bind_eq_some_iff.mp H
                obtain ⟨t122, A140, H⟩ := H
                replace H : (some (t122.toList == ([97, 10] : List UInt8))) = some r := H
                have A14 := Aside0.mk A140
                clear A140
                obtain rfl := Option.some.inj H
                go_enter Try.func8, Try.ntmps8
                go_wp2_with (first | ((with_reducible refine gate_callee (f := 11) rfl ?_); refine goesL_ (some 6) rfl rfl Try.func11 (by kernel_rfl) rfl #[.string (⟨#[97, 10, 10, 98]⟩ : ByteArray)] rfl (by (try simp only [List.map_toArray, List.map_cons, List.map_nil]); first | done | rfl | (simp only [List.length_drop, List.length_take]; rfl)) ?_; (with_reducible refine (lines_Split.calls (⟨#[97, 10, 10, 98]⟩ : ByteArray) t109 _ A1.out).mono ?_); rintro e w15 ⟨v110, rfl, ho0, hb⟩; refine ⟨_, rfl, ?_⟩; have n0_ := Aside0.mk (Kd.R_lower ho0 (below_size (by repeat (first | (with_reducible first | exact HB.out | apply below_alloc | apply pw_below_drewN | apply below_drew1) | exact HB.out)))); have n1_ := Aside0.mk (below_step (by repeat (first | (with_reducible first | exact HB.out | apply below_alloc | apply pw_below_drewN | apply below_drew1) | exact HB.out)) hb); clear HB; have HO111 := n0_; have HB := n1_; clear n0_ n1_; (try clear hb); (try clear hb2); (try clear hk); (try clear hi); (try clear ho0)) | ((with_reducible refine gate_callee (f := 17) rfl ?_); refine goesL_ (some 8) rfl rfl Try.func17 (by kernel_rfl) rfl #[.string (⟨#[97, 10, 10, 98]⟩ : ByteArray), .int .i64 3] rfl (by (try simp only [List.map_toArray, List.map_cons, List.map_nil]); first | done | rfl | (simp only [List.length_drop, List.length_take]; rfl)) ?_; (with_reducible refine (lines_Place.calls k (⟨#[97, 10, 10, 98]⟩ : ByteArray) 3 t112 t113 _ A2.out).mono ?_); rintro e w' ⟨rfl, ⟨nd, rfl⟩⟩; refine ⟨_, rfl, ?_⟩) | ((with_reducible refine gate_callee (f := 19) rfl ?_); refine goesL_ (some 12) rfl rfl Try.func19 (by kernel_rfl) rfl #[.string (⟨#[97, 10, 10, 98]⟩ : ByteArray), .int .i64 3] rfl (by (try simp only [List.map_toArray, List.map_cons, List.map_nil]); first | done | rfl | (simp only [List.length_drop, List.length_take]; rfl)) ?_; (with_reducible refine (lines_Start.calls (⟨#[97, 10, 10, 98]⟩ : ByteArray) 3 t114 true _ A3.out).mono ?_); rintro e w16 ⟨rfl, hb⟩; refine ⟨_, rfl, ?_⟩; have n0_ := Aside0.mk (Kd.R_below (by (with_reducible repeat (first | apply Kd.R_alloc | apply Kd.R_drewN | apply Kd.R_drew)); exact HO111.out) hb); have n1_ := Aside0.mk (below_step (by repeat (first | (with_reducible first | exact HB.out | apply below_alloc | apply pw_below_drewN | apply below_drew1) | exact HB.out)) hb); clear HO111; clear HB; have HO111 := n0_; have HB := n1_; clear n0_ n1_; (try clear hb); (try clear hb2); (try clear hk); (try clear hi)) | ((with_reducible refine gate_dst (N := 16) rfl ?_); refine Kd.R_lit Kd.string _ 9 ?hg (N := 16) ?hd (xs := ([(⟨#[97, 10]⟩ : ByteArray), (⟨#[10]⟩ : ByteArray), (⟨#[98]⟩ : ByteArray)] : List ByteArray)) (inner := [.string (⟨#[97, 10]⟩ : ByteArray), .string (⟨#[10]⟩ : ByteArray), .string (⟨#[98]⟩ : ByteArray)]) (ok := fun _ => True) (okp := fun _ => True) ?hr ?hp (fun _ hk => hk) trivial (Below.refl _ _) (Nat.le_refl _) (by simp) ?_; (case hd => rfl); (case hg => rfl); (case hr => first | (go_simp; done) | (go_simp; rfl)); (case hp => exact (Reps.one (show Kd.M Kd.string _ _ _ (⟨#[97, 10]⟩ : ByteArray) [.string (⟨#[97, 10]⟩ : ByteArray)] from rfl) (Reps.one (show Kd.M Kd.string _ _ _ (⟨#[10]⟩ : ByteArray) [.string (⟨#[10]⟩ : ByteArray)] from rfl) (Reps.one (show Kd.M Kd.string _ _ _ (⟨#[98]⟩ : ByteArray) [.string (⟨#[98]⟩ : ByteArray)] from rfl) (Reps.none _ _))))); intro v117 w17 ho18 hb hg_ hnew_; clear hg_ hnew_; (first | rw [← Ny116.out] at ho18 | (simp only [Int.reduceToNat] at ho18; rw [← Ny116.out] at ho18)); have n0_ := Aside0.mk (Kd.R_elder' (by (with_reducible repeat (first | apply Kd.R_alloc | apply Kd.R_drewN | apply Kd.R_drew)); exact HO111.out) (Kd.R_base ho18) hb); have n1_ := Aside0.mk (Kd.R_lower (Kd.R_new' ho18 (Kd.R_lt (by (with_reducible repeat (first | apply Kd.R_alloc | apply Kd.R_drewN | apply Kd.R_drew)); exact HO111.out))) (below_size (by repeat (first | (with_reducible first | exact HB.out | apply below_alloc | apply pw_below_drewN | apply below_drew1) | exact HB.out)))); have n2_ := Aside0.mk (below_step (by repeat (first | (with_reducible first | exact HB.out | apply below_alloc | apply pw_below_drewN | apply below_drew1) | exact HB.out)) hb); clear HO111; clear HB; have HO111 := n0_; have HO118 := n1_; have HB := n2_; clear n0_ n1_ n2_; clear hb ho18; obtain ⟨Ao19, co19, eo19⟩ := Kd.R_slice HO111.out; subst eo19; obtain ⟨Ao20, co20, eo20⟩ := Kd.R_slice HO118.out; subst eo20) | ((with_reducible refine gate_callee (f := 10) rfl ?_); refine goesL_ (some 17) rfl rfl Try.func10 (by kernel_rfl) rfl #[.slice Ao19 t109.length co19, .slice Ao20 y116.length co20] rfl (by (try simp only [List.map_toArray, List.map_cons, List.map_nil]); first | done | rfl | (simp only [List.length_drop, List.length_take]; rfl)) ?_; (with_reducible refine (concordatref01_Same.calls k _ _ t109 _ _ y116 true _ ?side1 ?side2 ?side3 ?side4 A4.out).mono ?_); (case side1 => repeat (first | exact (Kd.R_reads' HO111.out).2.2 | (with_reducible refine Kd.C_alloc ?_ _) | (with_reducible refine Kd.C_drewN ?_ _) | (with_reducible refine Kd.C_drew ?_))); (case side2 => exact (Kd.R_reads' HO111.out).2.1); (case side3 => repeat (first | exact (Kd.R_reads' HO118.out).2.2 | (with_reducible refine Kd.C_alloc ?_ _) | (with_reducible refine Kd.C_drewN ?_ _) | (with_reducible refine Kd.C_drew ?_))); (case side4 => exact (Kd.R_reads' HO118.out).2.1); rintro e w' ⟨rfl, ⟨nd, rfl⟩⟩; refine ⟨_, rfl, ?_⟩) | (go_at_call 13; (with_reducible refine (lines_Join.calls _ _ t109 t120 _ ?side1 ?side2 A6.out).mono ?_); (case side1 => repeat (first | exact (Kd.R_reads' HO111.out).2.2 | (with_reducible refine Kd.C_alloc ?_ _) | (with_reducible refine Kd.C_drewN ?_ _) | (with_reducible refine Kd.C_drew ?_))); (case side2 => exact (Kd.R_reads' HO111.out).2.1); rintro e w21 ⟨rfl, hb⟩; have n0_ := Aside0.mk (Kd.R_below (by (with_reducible repeat (first | apply Kd.R_alloc | apply Kd.R_drewN | apply Kd.R_drew)); exact HO111.out) hb); have n1_ := Aside0.mk (Kd.R_below (by (with_reducible repeat (first | apply Kd.R_alloc | apply Kd.R_drewN | apply Kd.R_drew)); exact HO118.out) hb); have n2_ := Aside0.mk (below_step (by repeat (first | (with_reducible first | exact HB.out | apply below_alloc | apply pw_below_drewN | apply below_drew1) | exact HB.out)) hb); clear HO111; clear HO118; clear HB; have HO111 := n0_; have HO118 := n1_; have HB := n2_; clear n0_ n1_ n2_; (try clear hb); (try clear hb2); (try clear hk); (try clear hi)) | (go_at_call 12; (with_reducible refine (lines_Count.calls (⟨#[97, 10]⟩ : ByteArray) t121 _ A8.out).mono ?_); rintro e w' ⟨rfl, ⟨nd, rfl⟩⟩) | (go_at_call 15; (with_reducible refine (lines_Whole.calls (⟨#[97]⟩ : ByteArray) t122 _ A14.out).mono ?_); rintro e w' ⟨rfl, ⟨nd, rfl⟩⟩))
                go_ret
                exact ⟨by first | rfl | (simp [errW_none, errW_some] <;> rfl) | (simp [*, errW_none, errW_some] <;> rfl), by repeat (first | (with_reducible first | exact HB.out | apply below_alloc | apply pw_below_drewN | apply below_drew1) | exact HB.out)⟩
              · replace c13 := Bool.eq_false_iff.mpr c13
                subst c13
                have H1 : (none) = some r := by rw [if_neg (show ¬ (false = true) by decide)] at H; exact H
                clear H
                have H := H1
                clear H1
                exact absurd H (by simp)
            · rw [if_neg c12] at H
              exact absurd H (by simp)
          · rw [if_neg c11] at H
            exact absurd H (by simp)
        · rw [if_neg c10] at H
          exact absurd H (by simp)
      · rw [if_neg c9] at H
        exact absurd H (by simp)
    · rw [if_neg c7] at H
      exact absurd H (by simp)
  · replace c5 := Bool.eq_false_iff.mpr c5
    subst c5
    have H1 : (none) = some r := by rw [if_neg (show ¬ (false = true) by decide)] at H; exact H
    clear H
    have H := H1
    clear H1
    exact absurd H (by simp)

/-! ### concordatref01_Split: function 9 -/
def concordatref01_Split.l0 : Nat → ByteArray → List ByteArray → Int → Int → Option (List ByteArray)
  | 0, _, _, _, _ => none
  | k + 1, x0, x3, x4, x5 => if x5 < (x0.size : Int) then (if 0 ≤ x5 then (if (bt x0 x5) = 10 then (if 0 ≤ x4 then (if x4 ≤ (wrap64 (x5 + 1)) then (if (wrap64 (x5 + 1)) ≤ (x0.size : Int) then (if x3.length < 8796093022208 then (concordatref01_Split.l0 k x0 (x3 ++ [x0.extract (x4 : Int).toNat ((wrap64 (x5 + 1)) : Int).toNat]) (wrap64 (x5 + 1)) (wrap64 (x5 + 1))) else (none)) else (none)) else (none)) else (none)) else (concordatref01_Split.l0 k x0 x3 x4 (wrap64 (x5 + 1)))) else (none)) else (if x4 < (x0.size : Int) then (if 0 ≤ x4 then (if x4 ≤ (x0.size : Int) then (if x3.length < 8796093022208 then (some (x3 ++ [x0.extract (x4 : Int).toNat x0.size])) else (none)) else (none)) else (none)) else (some x3))
def concordatref01_Split.f (k : Nat) (a0 : ByteArray) : Option (List ByteArray) := concordatref01_Split.l0 k a0 ([] : List ByteArray) 0 0
theorem concordatref01_Split.mono_l : ∀ k, (∀ y0 y1 y2 y3, LeO (concordatref01_Split.l0 k y0 y1 y2 y3) (concordatref01_Split.l0 (k + 1) y0 y1 y2 y3))
  | 0 => fun _ _ _ _ r h => by simp [concordatref01_Split.l0] at h
  | k + 1 => by
    have ih0 := concordatref01_Split.mono_l k
    · intro y0 y1 y2 y3
      unfold concordatref01_Split.l0
      repeat' first
      | (with_reducible exact ih0 _ _ _ _)
      | (with_reducible exact LeO.refl _)
      | (with_reducible exact LeO.none _)
      | (with_reducible refine LeO.ite ?_ ?_)
      | (with_reducible refine LeO.bind ?_ (fun _ => ?_))
      | exact ih0 _ _ _ _
      | exact LeO.none _
      | refine LeO.ite ?_ ?_
      | refine LeO.bind ?_ (fun _ => ?_)
theorem concordatref01_Split.mono : ∀ a0 k, LeO (concordatref01_Split.f k a0) (concordatref01_Split.f (k + 1) a0) := by
  intro a0 k
  have ih0 := concordatref01_Split.mono_l k
  unfold concordatref01_Split.f
  repeat' first
      | (with_reducible exact ih0 _ _ _ _)
      | (with_reducible exact LeO.refl _)
      | (with_reducible exact LeO.none _)
      | (with_reducible refine LeO.ite ?_ ?_)
      | (with_reducible refine LeO.bind ?_ (fun _ => ?_))
      | exact ih0 _ _ _ _
      | exact LeO.none _
      | refine LeO.ite ?_ ?_
      | refine LeO.bind ?_ (fun _ => ?_)
set_option maxHeartbeats 8000000 in
set_option maxRecDepth 100000 in
theorem concordatref01_Split.calls (k : Nat) (a0 : ByteArray) (r : List ByteArray) (w : World) (h : concordatref01_Split.f k a0 = some r) :
    Calls Try.prog 9 #[.string a0] w fun e w' => ∃ v0_ : Value, e = .returned (v0_) ∧ Kd.R Kd.string 9 w' w.heap.size (fun _ => True) v0_ r ∧ Below w.heap.size w w' := by
  have HB := Aside0.mk (Below.refl w.heap.size w)
  have H : (concordatref01_Split.l0 k a0 ([] : List ByteArray) 0 0) = some r := h
  clear h
  have H' := Aside0.mk H
  clear H
  go_enter Try.func9, Try.ntmps9
  go_wp2
  go_loopg [3, 4, 5] k (fun kq v3 v4 v5 w' => ∃ (x3_1 : List ByteArray) (x4_1 : Int) (x5_1 : Int), v4 = .int .i64 x4_1 ∧ v5 = .int .i64 x5_1 ∧ Aside0 (concordatref01_Split.l0 kq a0 x3_1 x4_1 x5_1 = some r) ∧ Aside0 (kq ≤ k) ∧ Aside0 (Kd.R Kd.string 9 w' w.heap.size (fun _ => True) v3 x3_1) ∧ Aside0 (Below w.heap.size w w'))
  case atStart => exact ⟨(([] : List ByteArray)), (0), (0), (by first | rfl | (simp; done) | (simp [*]; done)), (by first | rfl | (simp; done) | (simp [*]; done)), H', ⟨Nat.le_refl _⟩, ⟨by first | exact Kd.R_nil _ _ _ _ _ | exact Kd.N_nil _ _ _ _ _ | exact Kd.V_nil _ _ _ _ _ | exact Kd.Q_nil _ _ _ _ _ | exact Kd.S_nil _ _ _ _ _⟩, ⟨by repeat (first | (with_reducible first | exact HB.out | apply below_alloc | apply pw_below_drewN | apply below_drew1) | exact HB.out)⟩⟩
  case round =>
    clear H'
    obtain ⟨x3_1, x4_1, x5_1, rfl, rfl, HA, HK1, HO_3, HB⟩ := hrel
    cases gk with
    | zero => exact absurd HA.out (by simp [concordatref01_Split.l0])
    | succ k1 =>
      have H := HA.out
      clear HA
      simp only [concordatref01_Split.l0] at H
      by_cases c2 : x5_1 < (a0.size : Int)
      · rw [if_pos c2] at H
        have c2b0 : decide (x5_1 < (a0.size : Int)) = true := decide_eq_true c2
        clear c2
        by_cases c3 : 0 ≤ x5_1
        · rw [if_pos c3] at H
          have c3b0 : decide (0 ≤ x5_1) = true := decide_eq_true c3
          clear c3
          by_cases c5 : (bt a0 x5_1) = 10
          · rw [if_pos c5] at H
            have c5b0 : ((bt a0 x5_1) == 10) = true := beq_iff_eq.mpr c5
            have c5b1 : ((bt a0 x5_1) != 10) = false := bne_eq_false_iff_eq.mpr c5
            clear c5
            by_cases c6 : 0 ≤ x4_1
            · rw [if_pos c6] at H
              have c6b0 := eq_true c6
              have c6b1 : decide (0 ≤ x4_1) = true := decide_eq_true c6
              clear c6
              by_cases c7 : x4_1 ≤ (wrap64 (x5_1 + 1))
              · rw [if_pos c7] at H
                have c7b0 := eq_true c7
                have c7b1 : decide (x4_1 ≤ (wrap64 (x5_1 + 1))) = true := decide_eq_true c7
                by_cases c8 : (wrap64 (x5_1 + 1)) ≤ (a0.size : Int)
                · rw [if_pos c8] at H
                  have c8b0 := eq_true c8
                  have c8b1 : decide ((wrap64 (x5_1 + 1)) ≤ (a0.size : Int)) = true := decide_eq_true c8
                  by_cases c9 : x3_1.length < 8796093022208
                  · rw [if_pos c9] at H
                    have LMc9 := Aside0.mk c9
                    clear c9
                    obtain ⟨y123, hy123⟩ : ∃ y_ : List ByteArray, y_ = (x3_1 ++ [a0.extract (x4_1 : Int).toNat ((wrap64 (x5_1 + 1)) : Int).toNat]) := ⟨_, rfl⟩
                    replace H : (concordatref01_Split.l0 k1 a0 y123 (wrap64 (x5_1 + 1)) (wrap64 (x5_1 + 1))) = some r := by first | (rw [hy123]; with_reducible exact H) | (have H2_ := (Option.bind_some _ _).symm.trans H; rw [hy123]; with_reducible exact H2_) | (have H2_ := (Option.bind_some _ _).symm.trans H; with_reducible exact H2_) | with_reducible exact H | (rw [hy123]; exact H) | exact H
                    have Ny123 := Aside0.mk hy123
                    clear hy123
                    have H' := Aside0.mk H
                    clear H
                    have p4 : 0 ≤ (x5_1 : Int) := of_decide_eq_true (by first | (with_reducible assumption) | assumption)
                    have q4 : x5_1 < (a0.size : Int) := of_decide_eq_true (by first | (with_reducible assumption) | assumption)
                    have hx4 := bt_at a0 x5_1
                    replace p4 := eq_true p4
                    replace q4 := eq_true q4
                    go_wp2_with (first | ((with_reducible refine gate_builtin (b := .append) (xs := #[.tmp 16, .tmp 22]) rfl ?_); at_builtin; refine Kd.R_append Kd.string (w0 := w) w.heap.size rfl (.tmp 16) (.tmp 22) 22 9 (.string ⟨#[]⟩) 16 rfl Try.underlying22 info9 rfl (by decide) (by omega) u3 x3_1 (a0.extract (x4_1 : Int).toNat ((wrap64 (x5_1 + 1)) : Int).toNat) [.string (a0.extract (x4_1 : Int).toNat ((wrap64 (x5_1 + 1)) : Int).toNat)] (fun _ => True) (fun _ => False) rfl rfl ?aP (fun _ hk => hk.elim) ?aF ?aO ?aB ?aS ?aL ?_; (case aP => exact rfl); (case aB => exact (by repeat (first | (with_reducible first | exact HB.out | apply below_alloc | apply pw_below_drewN | apply below_drew1) | exact HB.out))); (case aF => exact (fun _ _ => trivial)); (case aO => exact (by (with_reducible repeat (first | apply Kd.R_alloc | apply Kd.R_drewN | apply Kd.R_drew)); exact HO_3.out)); (case aS => exact (below_size (by repeat (first | (with_reducible first | exact HB.out | apply below_alloc | apply pw_below_drewN | apply below_drew1) | exact HB.out)))); (case aL => have := LMc9.out; omega); intro v124 w10 ho hb hg hat; rw [← Ny123.out] at ho; have n0_ := Aside0.mk (hb); have n1_ := Aside0.mk (ho); clear HB; clear HO_3; have HB := n0_; have HO125 := n1_; clear n0_ n1_; clear ho hb hg hat))
                    go_roundg k1
                    case measure => have := HK1.out; omega
                    case rel => exact ⟨(y123), (wrap64 (x5_1 + 1)), (wrap64 (x5_1 + 1)), (by first | rfl | (simp; done) | (simp [*]; done)), (by first | rfl | (simp; done) | (simp [*]; done)), H', ⟨by have := HK1.out; omega⟩, ⟨by (with_reducible repeat (first | apply Kd.R_alloc | apply Kd.R_drewN | apply Kd.R_drew)); first | exact HO125.out | exact Kd.R_mono HO125.out (fun _ _ => trivial)⟩, ⟨by repeat (first | (with_reducible first | exact HB.out | apply below_alloc | apply pw_below_drewN | apply below_drew1) | exact HB.out)⟩⟩
                  · rw [if_neg c9] at H
                    exact absurd H (by simp)
                · rw [if_neg c8] at H
                  exact absurd H (by simp)
              · rw [if_neg c7] at H
                exact absurd H (by simp)
            · rw [if_neg c6] at H
              exact absurd H (by simp)
          · rw [if_neg c5] at H
            have c5b0 : ((bt a0 x5_1) == 10) = false := beq_eq_false_iff_ne.mpr c5
            have c5b1 : ((bt a0 x5_1) != 10) = true := bne_iff_ne.mpr c5
            have H' := Aside0.mk H
            clear H
            have p4 : 0 ≤ (x5_1 : Int) := of_decide_eq_true (by first | (with_reducible assumption) | assumption)
            have q4 : x5_1 < (a0.size : Int) := of_decide_eq_true (by first | (with_reducible assumption) | assumption)
            have hx4 := bt_at a0 x5_1
            replace p4 := eq_true p4
            replace q4 := eq_true q4
            go_wp2
            go_roundg k1
            case measure => have := HK1.out; omega
            case rel => exact ⟨(x3_1), (x4_1), (wrap64 (x5_1 + 1)), (by first | rfl | (simp; done) | (simp [*]; done)), (by first | rfl | (simp; done) | (simp [*]; done)), H', ⟨by have := HK1.out; omega⟩, ⟨by (with_reducible repeat (first | apply Kd.R_alloc | apply Kd.R_drewN | apply Kd.R_drew)); first | exact HO_3.out | exact Kd.R_mono HO_3.out (fun _ _ => trivial)⟩, ⟨by repeat (first | (with_reducible first | exact HB.out | apply below_alloc | apply pw_below_drewN | apply below_drew1) | exact HB.out)⟩⟩
        · rw [if_neg c3] at H
          exact absurd H (by simp)
      · rw [if_neg c2] at H
        have c2b0 : decide (x5_1 < (a0.size : Int)) = false := decide_eq_false c2
        clear c2
        by_cases c11 : x4_1 < (a0.size : Int)
        · rw [if_pos c11] at H
          have c11b0 : decide (x4_1 < (a0.size : Int)) = true := decide_eq_true c11
          clear c11
          by_cases c12 : 0 ≤ x4_1
          · rw [if_pos c12] at H
            have c12b0 := eq_true c12
            have c12b1 : decide (0 ≤ x4_1) = true := decide_eq_true c12
            clear c12
            by_cases c13 : x4_1 ≤ (a0.size : Int)
            · rw [if_pos c13] at H
              have c13b0 := eq_true c13
              have c13b1 : decide (x4_1 ≤ (a0.size : Int)) = true := decide_eq_true c13
              clear c13
              by_cases c14 : x3_1.length < 8796093022208
              · rw [if_pos c14] at H
                have LMc14 := Aside0.mk c14
                clear c14
                obtain ⟨y126, hy126⟩ : ∃ y_ : List ByteArray, y_ = (x3_1 ++ [a0.extract (x4_1 : Int).toNat a0.size]) := ⟨_, rfl⟩
                replace H : (some y126) = some r := by first | (rw [hy126]; with_reducible exact H) | (have H2_ := (Option.bind_some _ _).symm.trans H; rw [hy126]; with_reducible exact H2_) | (have H2_ := (Option.bind_some _ _).symm.trans H; with_reducible exact H2_) | with_reducible exact H | (rw [hy126]; exact H) | exact H
                have Ny126 := Aside0.mk hy126
                clear hy126
                obtain rfl := Option.some.inj H
                go_wp2_with (first | ((with_reducible refine gate_builtin (b := .append) (xs := #[.tmp 30, .tmp 34]) rfl ?_); at_builtin; refine Kd.R_append Kd.string (w0 := w) w.heap.size rfl (.tmp 30) (.tmp 34) 22 9 (.string ⟨#[]⟩) 16 rfl Try.underlying22 info9 rfl (by decide) (by omega) u3 x3_1 (a0.extract (x4_1 : Int).toNat a0.size) [.string (a0.extract (x4_1 : Int).toNat a0.size)] (fun _ => True) (fun _ => False) rfl rfl ?aP (fun _ hk => hk.elim) ?aF ?aO ?aB ?aS ?aL ?_; (case aP => exact rfl); (case aB => exact (by repeat (first | (with_reducible first | exact HB.out | apply below_alloc | apply pw_below_drewN | apply below_drew1) | exact HB.out))); (case aF => exact (fun _ _ => trivial)); (case aO => exact (by (with_reducible repeat (first | apply Kd.R_alloc | apply Kd.R_drewN | apply Kd.R_drew)); exact HO_3.out)); (case aS => exact (below_size (by repeat (first | (with_reducible first | exact HB.out | apply below_alloc | apply pw_below_drewN | apply below_drew1) | exact HB.out)))); (case aL => have := LMc14.out; omega); intro v127 w15 ho hb hg hat; rw [← Ny126.out] at ho; have n0_ := Aside0.mk (hb); have n1_ := Aside0.mk (ho); clear HB; clear HO_3; have HB := n0_; have HO128 := n1_; clear n0_ n1_; clear ho hb hg hat))
                go_ret
                exact ⟨_, by first | rfl | (simp [errW_none, errW_some] <;> rfl) | (simp [*, errW_none, errW_some] <;> rfl), by (with_reducible repeat (first | apply Kd.R_alloc | apply Kd.R_drewN | apply Kd.R_drew)); exact HO128.out, by repeat (first | (with_reducible first | exact HB.out | apply below_alloc | apply pw_below_drewN | apply below_drew1) | exact HB.out)⟩
              · rw [if_neg c14] at H
                exact absurd H (by simp)
            · rw [if_neg c13] at H
              exact absurd H (by simp)
          · rw [if_neg c12] at H
            exact absurd H (by simp)
        · rw [if_neg c11] at H
          have c11b0 : decide (x4_1 < (a0.size : Int)) = false := decide_eq_false c11
          clear c11
          obtain rfl := Option.some.inj H
          go_wp2
          go_ret
          exact ⟨_, by first | rfl | (simp [errW_none, errW_some] <;> rfl) | (simp [*, errW_none, errW_some] <;> rfl), by (with_reducible repeat (first | apply Kd.R_alloc | apply Kd.R_drewN | apply Kd.R_drew)); exact HO_3.out, by repeat (first | (with_reducible first | exact HB.out | apply below_alloc | apply pw_below_drewN | apply below_drew1) | exact HB.out)⟩

/-! ### concordatref01_Join: function 14 -/
def concordatref01_Join.l0 : Nat → List ByteArray → ByteArray → Int → Option (ByteArray)
  | 0, _, _, _ => none
  | k + 1, x0, x3, x4 => if x4 < (x0.length : Int) then (if 0 ≤ x4 then (if x3.size + (rdOf ByteArray.empty x0 x4).size ≤ 9223372036854775807 then (concordatref01_Join.l0 k x0 (x3 ++ (rdOf ByteArray.empty x0 x4)) (wrap64 (x4 + 1))) else (none)) else (none)) else (some x3)
def concordatref01_Join.f (k : Nat) (l0 : List ByteArray) : Option (ByteArray) := concordatref01_Join.l0 k l0 (⟨#[]⟩ : ByteArray) 0
theorem concordatref01_Join.mono_l : ∀ k, (∀ y0 y1 y2, LeO (concordatref01_Join.l0 k y0 y1 y2) (concordatref01_Join.l0 (k + 1) y0 y1 y2))
  | 0 => fun _ _ _ r h => by simp [concordatref01_Join.l0] at h
  | k + 1 => by
    have ih0 := concordatref01_Join.mono_l k
    · intro y0 y1 y2
      unfold concordatref01_Join.l0
      repeat' first
      | (with_reducible exact ih0 _ _ _)
      | (with_reducible exact LeO.refl _)
      | (with_reducible exact LeO.none _)
      | (with_reducible refine LeO.ite ?_ ?_)
      | (with_reducible refine LeO.bind ?_ (fun _ => ?_))
      | exact ih0 _ _ _
      | exact LeO.none _
      | refine LeO.ite ?_ ?_
      | refine LeO.bind ?_ (fun _ => ?_)
theorem concordatref01_Join.mono : ∀ a0 k, LeO (concordatref01_Join.f k a0) (concordatref01_Join.f (k + 1) a0) := by
  intro a0 k
  have ih0 := concordatref01_Join.mono_l k
  unfold concordatref01_Join.f
  repeat' first
      | (with_reducible exact ih0 _ _ _)
      | (with_reducible exact LeO.refl _)
      | (with_reducible exact LeO.none _)
      | (with_reducible refine LeO.ite ?_ ?_)
      | (with_reducible refine LeO.bind ?_ (fun _ => ?_))
      | exact ih0 _ _ _
      | exact LeO.none _
      | refine LeO.ite ?_ ?_
      | refine LeO.bind ?_ (fun _ => ?_)
set_option maxHeartbeats 8000000 in
set_option maxRecDepth 100000 in
theorem concordatref01_Join.calls (k : Nat) (A0 : Option Addr) (c0 : Nat) (l0 : List ByteArray) (r : ByteArray) (w : World) (hr0 : Kd.C Kd.string w A0 l0.length l0) (hc0 : l0.length ≤ c0) (h : concordatref01_Join.f k l0 = some r) :
    Calls Try.prog 14 #[.slice A0 l0.length c0] w fun e w' => e = .returned (.string r) ∧ Drawn0 w w' := by
  have HR0 := Aside0.mk hr0
  have HC0 := Aside0.mk hc0
  clear hr0 hc0
  have H : (concordatref01_Join.l0 k l0 (⟨#[]⟩ : ByteArray) 0) = some r := h
  clear h
  have H' := Aside0.mk H
  clear H
  go_enter Try.func14, Try.ntmps14
  go_wp2
  go_loopg [3, 4] k (fun kq v3 v4 w' => ∃ (x3_1 : ByteArray) (x4_1 : Int), v3 = .string x3_1 ∧ v4 = .int .i64 x4_1 ∧ Aside0 (concordatref01_Join.l0 kq l0 x3_1 x4_1 = some r) ∧ Aside0 (kq ≤ k) ∧ Drawn0 w w')
  case atStart => exact ⟨((⟨#[]⟩ : ByteArray)), (0), (by first | rfl | (simp; done) | (simp [*]; done)), (by first | rfl | (simp; done) | (simp [*]; done)), H', ⟨Nat.le_refl _⟩, by repeat (first | exact Drawn0.refl _ | apply Drawn0.step)⟩
  case round =>
    clear H'
    try clear c1
    obtain ⟨x3_1, x4_1, rfl, rfl, HA, HK1, ⟨m1, rfl⟩⟩ := hrel
    cases gk with
    | zero => exact absurd HA.out (by simp [concordatref01_Join.l0])
    | succ k1 =>
      have H := HA.out
      clear HA
      simp only [concordatref01_Join.l0] at H
      by_cases c2 : x4_1 < (l0.length : Int)
      · rw [if_pos c2] at H
        have c2b0 : decide (x4_1 < (l0.length : Int)) = true := decide_eq_true c2
        clear c2
        by_cases c3 : 0 ≤ x4_1
        · rw [if_pos c3] at H
          have c3b0 : decide (0 ≤ x4_1) = true := decide_eq_true c3
          clear c3
          by_cases c4 : x3_1.size + (rdOf ByteArray.empty l0 x4_1).size ≤ 9223372036854775807
          · rw [if_pos c4] at H
            have c4b0 := eq_true c4
            have c4b1 : decide (x3_1.size + (rdOf ByteArray.empty l0 x4_1).size ≤ 9223372036854775807) = true := decide_eq_true c4
            try have c4b2 : (9223372036854775807 < x3_1.size + (rdOf ByteArray.empty l0 x4_1).size) = False := eq_false (Nat.not_lt.2 c4)
            have H' := Aside0.mk H
            clear H
            have p129 : 0 ≤ (x4_1 : Int) := of_decide_eq_true (by first | (with_reducible assumption) | assumption)
            have q129 : x4_1 < (l0.length : Int) := of_decide_eq_true (by first | (with_reducible assumption) | assumption)
            obtain ⟨ad129, e129, hx129_0⟩ := Kd.at_string HR0.out x4_1 p129 q129
            cases e129
            replace p129 := eq_true p129
            replace q129 := eq_true q129
            go_wp2
            go_roundg k1
            case measure => have := HK1.out; omega
            case rel => exact ⟨(x3_1 ++ (rdOf ByteArray.empty l0 x4_1)), (wrap64 (x4_1 + 1)), (by first | rfl | (simp; done) | (simp [*]; done)), (by first | rfl | (simp; done) | (simp [*]; done)), H', ⟨by have := HK1.out; omega⟩, by repeat (first | exact Drawn0.refl _ | apply Drawn0.step)⟩
          · rw [if_neg c4] at H
            exact absurd H (by simp)
        · rw [if_neg c3] at H
          exact absurd H (by simp)
      · rw [if_neg c2] at H
        have c2b0 : decide (x4_1 < (l0.length : Int)) = false := decide_eq_false c2
        clear c2
        obtain rfl := Option.some.inj H
        go_wp2
        go_ret
        exact ⟨by first | rfl | (simp; done) | (simp [*]; done), by repeat (first | exact Drawn0.refl _ | apply Drawn0.step)⟩

/-! ### concordatref01_Whole: function 16 -/
def concordatref01_Whole.f (a0 : ByteArray) : Option (ByteArray) := if (a0.size : Int) > 0 then (if 0 ≤ (wrap64 ((a0.size : Int) - 1)) then (if (wrap64 ((a0.size : Int) - 1)) < (a0.size : Int) then (if (bt a0 (wrap64 ((a0.size : Int) - 1))) = 10 then (some a0) else (if a0.size + 1 ≤ 9223372036854775807 then (some (a0 ++ (⟨#[10]⟩ : ByteArray))) else (none))) else (none)) else (none)) else (some a0)
set_option maxHeartbeats 8000000 in
set_option maxRecDepth 100000 in
theorem concordatref01_Whole.calls (a0 : ByteArray) (r : ByteArray) (w : World) (h : concordatref01_Whole.f a0 = some r) :
    Calls Try.prog 16 #[.string a0] w fun e w' => e = .returned (.string r) ∧ Drawn0 w w' := by
  have H : (if (a0.size : Int) > 0 then (if 0 ≤ (wrap64 ((a0.size : Int) - 1)) then (if (wrap64 ((a0.size : Int) - 1)) < (a0.size : Int) then (if (bt a0 (wrap64 ((a0.size : Int) - 1))) = 10 then (some a0) else (if a0.size + 1 ≤ 9223372036854775807 then (some (a0 ++ (⟨#[10]⟩ : ByteArray))) else (none))) else (none)) else (none)) else (some a0)) = some r := h
  clear h
  by_cases c2 : (a0.size : Int) > 0
  · rw [if_pos c2] at H
    have c2b0 : decide (0 < (a0.size : Int)) = true := decide_eq_true c2
    have c2b1 : decide (0 < a0.size) = true := decide_eq_true (by omega)
    clear c2
    obtain ⟨ji3, hji3⟩ : ∃ j_ : Int, (wrap64 ((a0.size : Int) - 1)) = j_ := ⟨_, rfl⟩
    replace H : (if 0 ≤ (ji3) then (if (ji3) < (a0.size : Int) then (if (bt a0 (ji3)) = 10 then (some a0) else (if a0.size + 1 ≤ 9223372036854775807 then (some (a0 ++ (⟨#[10]⟩ : ByteArray))) else (none))) else (none)) else (none)) = some r := by first | (rw [hji3] at H; exact H) | (simp only [hji3] at H ⊢; exact H)
    have hji3w : (IntKind.i64.wrap ((a0.size : Int) - 1)) = ji3 := (i64_w _).trans hji3
    by_cases c4 : 0 ≤ (ji3)
    · rw [if_pos c4] at H
      have c4b0 : decide (0 ≤ (ji3)) = true := decide_eq_true c4
      clear c4
      by_cases c5 : (ji3) < (a0.size : Int)
      · rw [if_pos c5] at H
        have c5b0 : decide ((ji3) < (a0.size : Int)) = true := decide_eq_true c5
        clear c5
        by_cases c7 : (bt a0 (ji3)) = 10
        · rw [if_pos c7] at H
          have c7b0 : ((bt a0 (ji3)) == 10) = true := beq_iff_eq.mpr c7
          have c7b1 : ((bt a0 (ji3)) != 10) = false := bne_eq_false_iff_eq.mpr c7
          clear c7
          obtain rfl := Option.some.inj H
          have p6 : 0 ≤ ((ji3) : Int) := of_decide_eq_true (by first | (with_reducible assumption) | assumption)
          have q6 : (ji3) < (a0.size : Int) := of_decide_eq_true (by first | (with_reducible assumption) | assumption)
          have hx6 := bt_at a0 (ji3)
          replace p6 := eq_true p6
          replace q6 := eq_true q6
          go_enter Try.func16, Try.ntmps16
          go_wp2
          go_ret
          exact ⟨by first | rfl | (simp; done) | (simp only [← hji3] <;> (first | rfl | simp)) | (simp [*]; done), by repeat (first | exact Drawn0.refl _ | apply Drawn0.step)⟩
        · rw [if_neg c7] at H
          have c7b0 : ((bt a0 (ji3)) == 10) = false := beq_eq_false_iff_ne.mpr c7
          have c7b1 : ((bt a0 (ji3)) != 10) = true := bne_iff_ne.mpr c7
          by_cases c8 : a0.size + 1 ≤ 9223372036854775807
          · rw [if_pos c8] at H
            have c8b0 := eq_true c8
            have c8b1 : decide (a0.size + 1 ≤ 9223372036854775807) = true := decide_eq_true c8
            try have c8b2 : (9223372036854775807 < a0.size + 1) = False := eq_false (Nat.not_lt.2 c8)
            obtain rfl := Option.some.inj H
            have p6 : 0 ≤ ((ji3) : Int) := of_decide_eq_true (by first | (with_reducible assumption) | assumption)
            have q6 : (ji3) < (a0.size : Int) := of_decide_eq_true (by first | (with_reducible assumption) | assumption)
            have hx6 := bt_at a0 (ji3)
            replace p6 := eq_true p6
            replace q6 := eq_true q6
            go_enter Try.func16, Try.ntmps16
            go_wp2
            go_ret
            exact ⟨by first | rfl | (simp; done) | (simp only [← hji3] <;> (first | rfl | simp)) | (simp [*]; done), by repeat (first | exact Drawn0.refl _ | apply Drawn0.step)⟩
          · rw [if_neg c8] at H
            exact absurd H (by simp)
      · rw [if_neg c5] at H
        exact absurd H (by simp)
    · rw [if_neg c4] at H
      exact absurd H (by simp)
  · rw [if_neg c2] at H
    have c2b0 : decide (0 < (a0.size : Int)) = false := decide_eq_false c2
    have c2b1 : decide (0 < a0.size) = false := decide_eq_false (by omega)
    clear c2
    obtain rfl := Option.some.inj H
    go_enter Try.func16, Try.ntmps16
    go_wp2
    go_ret
    exact ⟨by first | rfl | (simp; done) | (simp [*]; done), by repeat (first | exact Drawn0.refl _ | apply Drawn0.step)⟩

/-! ### concordatlaw01_LinesSplits: function 3 -/
def concordatlaw01_LinesSplits.j0 : Nat → ByteArray → List ByteArray → Bool → Option (Bool)
  | 0, _, _, _ => none
  | k + 1, x0, x1, x17 => if x17 = true then (some true) else ((concordatref01_Split.f k x0).bind fun t131 => ((lines_Split.f x0).bind fun t134 => ((concordatref01_Same.f k t134 t131).bind fun t137 => (if t137 = true then ((lines_Count.f x0).bind fun t138 => (if t138 = (t131.length : Int) then ((lines_Join.f x1).bind fun t139 => ((concordatref01_Join.f k x1).bind fun t140 => (if t139.toList = t140.toList then ((lines_Whole.f x0).bind fun t141 => ((concordatref01_Whole.f x0).bind fun t142 => (some (t141.toList == t142.toList)))) else (none)))) else (none))) else (none)))))
def concordatlaw01_LinesSplits.f (k : Nat) (a0 : ByteArray) (l1 : List ByteArray) : Option (Bool) := (concordatlaw01_awake.f k).bind fun t130 => (if t130 = true then (if (a0.size : Int) > 5000 then (concordatlaw01_LinesSplits.j0 k a0 l1 true) else (concordatlaw01_LinesSplits.j0 k a0 l1 (decide ((l1.length : Int) > 200)))) else (none))
theorem concordatlaw01_LinesSplits.mono_l : ∀ k, (∀ y0 y1 y2, LeO (concordatlaw01_LinesSplits.j0 k y0 y1 y2) (concordatlaw01_LinesSplits.j0 (k + 1) y0 y1 y2))
  | 0 => fun _ _ _ r h => by simp [concordatlaw01_LinesSplits.j0] at h
  | k + 1 => by
    have ih0 := concordatlaw01_LinesSplits.mono_l k
    · intro y0 y1 y2
      unfold concordatlaw01_LinesSplits.j0
      repeat' first
      | (with_reducible exact ih0 _ _ _)
      | (with_reducible exact concordatlaw01_awake.mono _)
      | (with_reducible exact concordatref01_Join.mono _ _)
      | (with_reducible exact concordatref01_Same.mono _ _ _)
      | (with_reducible exact concordatref01_Split.mono _ _)
      | (with_reducible exact LeO.refl _)
      | (with_reducible exact LeO.none _)
      | (with_reducible refine LeO.ite ?_ ?_)
      | (with_reducible refine LeO.bind ?_ (fun _ => ?_))
      | exact ih0 _ _ _
      | exact concordatlaw01_awake.mono _
      | exact concordatref01_Join.mono _ _
      | exact concordatref01_Same.mono _ _ _
      | exact concordatref01_Split.mono _ _
      | exact LeO.none _
      | refine LeO.ite ?_ ?_
      | refine LeO.bind ?_ (fun _ => ?_)
theorem concordatlaw01_LinesSplits.mono : ∀ a0 a1 k, LeO (concordatlaw01_LinesSplits.f k a0 a1) (concordatlaw01_LinesSplits.f (k + 1) a0 a1) := by
  intro a0 a1 k
  have ih0 := concordatlaw01_LinesSplits.mono_l k
  unfold concordatlaw01_LinesSplits.f
  repeat' first
      | (with_reducible exact ih0 _ _ _)
      | (with_reducible exact concordatlaw01_awake.mono _)
      | (with_reducible exact concordatref01_Join.mono _ _)
      | (with_reducible exact concordatref01_Same.mono _ _ _)
      | (with_reducible exact concordatref01_Split.mono _ _)
      | (with_reducible exact LeO.refl _)
      | (with_reducible exact LeO.none _)
      | (with_reducible refine LeO.ite ?_ ?_)
      | (with_reducible refine LeO.bind ?_ (fun _ => ?_))
      | exact ih0 _ _ _
      | exact concordatlaw01_awake.mono _
      | exact concordatref01_Join.mono _ _
      | exact concordatref01_Same.mono _ _ _
      | exact concordatref01_Split.mono _ _
      | exact LeO.none _
      | refine LeO.ite ?_ ?_
      | refine LeO.bind ?_ (fun _ => ?_)
set_option maxHeartbeats 8000000 in
set_option maxRecDepth 100000 in
theorem concordatlaw01_LinesSplits.calls (k : Nat) (a0 : ByteArray) (A1 : Option Addr) (c1 : Nat) (l1 : List ByteArray) (r : Bool) (w : World) (hr1 : Kd.C Kd.string w A1 l1.length l1) (hc1 : l1.length ≤ c1) (h : concordatlaw01_LinesSplits.f k a0 l1 = some r) :
    Calls Try.prog 3 #[.string a0, .slice A1 l1.length c1] w fun e w' => e = .returned (.bool r) ∧ Below w.heap.size w w' := by
  have HR1 := Aside0.mk hr1
  have HC1 := Aside0.mk hc1
  clear hr1 hc1
  have HB := Aside0.mk (Below.refl w.heap.size w)
  have H : ((concordatlaw01_awake.f k).bind fun t130 => (if t130 = true then (if (a0.size : Int) > 5000 then (concordatlaw01_LinesSplits.j0 k a0 l1 true) else (concordatlaw01_LinesSplits.j0 k a0 l1 (decide ((l1.length : Int) > 200)))) else (none))) = some r := h
  clear h
  replace H := Option.bind_eq_some_iff.mp H
  obtain ⟨t130, A30, H⟩ := H
  replace H : (if t130 = true then (if (a0.size : Int) > 5000 then (concordatlaw01_LinesSplits.j0 k a0 l1 true) else (concordatlaw01_LinesSplits.j0 k a0 l1 (decide ((l1.length : Int) > 200)))) else (none)) = some r := H
  have A3 := Aside0.mk A30
  clear A30
  by_cases c4 : t130 = true
  · subst c4
    have H1 : (if (a0.size : Int) > 5000 then (concordatlaw01_LinesSplits.j0 k a0 l1 true) else (concordatlaw01_LinesSplits.j0 k a0 l1 (decide ((l1.length : Int) > 200)))) = some r := by rw [if_pos rfl] at H; exact H
    clear H
    have H := H1
    clear H1
    have HC5 := Aside0.mk H
    clear H
    go_enter Try.func3, Try.ntmps3
    go_upto_region 4 with (first | ((with_reducible refine gate_callee (f := 8) rfl ?_); refine goesL_ (some 7) rfl rfl Try.func8 (by kernel_rfl) rfl #[] rfl (by (try simp only [List.map_toArray, List.map_cons, List.map_nil]); first | done | rfl | (simp only [List.length_drop, List.length_take]; rfl)) ?_; (with_reducible refine (concordatlaw01_awake.calls k  true _ A3.out).mono ?_); rintro e w6 ⟨rfl, hb⟩; refine ⟨_, rfl, ?_⟩; have n0_ := Aside0.mk (below_step (by repeat (first | (with_reducible first | exact HB.out | apply below_alloc | apply pw_below_drewN | apply below_drew1) | exact HB.out)) hb); clear HB; have HB := n0_; clear n0_; (try clear hb); (try clear hb2); (try clear hk); (try clear hi)))
    (try simp only [Act.put, List.setIfInBounds_toArray, List.set_cons_zero, List.set_cons_succ])
    go_cut [17] (fun v17 wc => ∃ (kq : Nat) (x17_4 : Bool), v17 = .bool x17_4 ∧ Aside0 (concordatlaw01_LinesSplits.j0 kq a0 l1 x17_4 = some r) ∧ Aside0 (kq ≤ k) ∧ Aside0 (Below w.heap.size w wc))
    case first =>
      have H := HC5.out
      clear HC5
      by_cases c7 : (a0.size : Int) > 5000
      · rw [if_pos c7] at H
        have c7b0 : decide (5000 < (a0.size : Int)) = true := decide_eq_true c7
        have c7b1 : decide (5000 < a0.size) = true := decide_eq_true (by omega)
        clear c7
        (first | rw [c7b0] | (simp only [i64_w, i32_w]; rw [c7b0]) | skip)
        have H' := Aside0.mk H
        clear H
        go_wp2
        go_meet
        case rel => exact ⟨_, (true), (by first | rfl | (simp; done) | (simp [*]; done)), H', ⟨by first | omega | exact Nat.le_refl _⟩, ⟨by repeat (first | (with_reducible first | exact HB.out | apply below_alloc | apply pw_below_drewN | apply below_drew1) | exact HB.out)⟩⟩
      · rw [if_neg c7] at H
        have c7b0 : decide (5000 < (a0.size : Int)) = false := decide_eq_false c7
        have c7b1 : decide (5000 < a0.size) = false := decide_eq_false (by omega)
        clear c7
        (first | rw [c7b0] | (simp only [i64_w, i32_w]; rw [c7b0]) | skip)
        have H' := Aside0.mk H
        clear H
        go_wp2
        go_meet
        case rel => exact ⟨_, (decide ((l1.length : Int) > 200)), (by first | rfl | (simp; done) | (simp [*]; done)), H', ⟨by first | omega | exact Nat.le_refl _⟩, ⟨by repeat (first | (with_reducible first | exact HB.out | apply below_alloc | apply pw_below_drewN | apply below_drew1) | exact HB.out)⟩⟩
    case rest =>
      clear HC5
      try clear c1
      try clear p2
      try clear c3
      try clear c4
      try clear c7
      try clear c7b0
      try clear c7b1
      obtain ⟨kq, x17_4, rfl, HA, HJ4, HB⟩ := hcut
      cases kq with
      | zero => exact absurd HA.out (by simp [concordatlaw01_LinesSplits.j0])
      | succ kj4 =>
        have H := HA.out
        clear HA
        simp only [concordatlaw01_LinesSplits.j0] at H
        by_cases c8 : x17_4 = true
        · subst c8
          have H1 : (some true) = some r := by rw [if_pos rfl] at H; exact H
          clear H
          have H := H1
          clear H1
          obtain rfl := Option.some.inj H
          go_wp2
          go_ret
          exact ⟨by first | rfl | (simp [errW_none, errW_some] <;> rfl) | (simp [*, errW_none, errW_some] <;> rfl), by repeat (first | (with_reducible first | exact HB.out | apply below_alloc | apply pw_below_drewN | apply below_drew1) | exact HB.out)⟩
        · replace c8 := Bool.eq_false_iff.mpr c8
          subst c8
          have H1 : ((concordatref01_Split.f kj4 a0).bind fun t131 => ((lines_Split.f a0).bind fun t134 => ((concordatref01_Same.f kj4 t134 t131).bind fun t137 => (if t137 = true then ((lines_Count.f a0).bind fun t138 => (if t138 = (t131.length : Int) then ((lines_Join.f l1).bind fun t139 => ((concordatref01_Join.f kj4 l1).bind fun t140 => (if t139.toList = t140.toList then ((lines_Whole.f a0).bind fun t141 => ((concordatref01_Whole.f a0).bind fun t142 => (some (t141.toList == t142.toList)))) else (none)))) else (none))) else (none))))) = some r := by rw [if_neg (show ¬ (false = true) by decide)] at H; exact H
          clear H
          have H := H1
          clear H1
          replace H := Option.bind_eq_some_iff.mp H
          obtain ⟨t131, A90, H⟩ := H
          replace H : ((lines_Split.f a0).bind fun t134 => ((concordatref01_Same.f kj4 t134 t131).bind fun t137 => (if t137 = true then ((lines_Count.f a0).bind fun t138 => (if t138 = (t131.length : Int) then ((lines_Join.f l1).bind fun t139 => ((concordatref01_Join.f kj4 l1).bind fun t140 => (if t139.toList = t140.toList then ((lines_Whole.f a0).bind fun t141 => ((concordatref01_Whole.f a0).bind fun t142 => (some (t141.toList == t142.toList)))) else (none)))) else (none))) else (none)))) = some r := H
          have A9 := Aside0.mk A90
          clear A90
          replace H := Option.bind_eq_some_iff.mp H
          obtain ⟨t134, A100, H⟩ := H
          replace H : ((concordatref01_Same.f kj4 t134 t131).bind fun t137 => (if t137 = true then ((lines_Count.f a0).bind fun t138 => (if t138 = (t131.length : Int) then ((lines_Join.f l1).bind fun t139 => ((concordatref01_Join.f kj4 l1).bind fun t140 => (if t139.toList = t140.toList then ((lines_Whole.f a0).bind fun t141 => ((concordatref01_Whole.f a0).bind fun t142 => (some (t141.toList == t142.toList)))) else (none)))) else (none))) else (none))) = some r := H
          have A10 := Aside0.mk A100
          clear A100
          replace H := Option.bind_eq_some_iff.mp H
          obtain ⟨t137, A110, H⟩ := H
          replace H : (if t137 = true then ((lines_Count.f a0).bind fun t138 => (if t138 = (t131.length : Int) then ((lines_Join.f l1).bind fun t139 => ((concordatref01_Join.f kj4 l1).bind fun t140 => (if t139.toList = t140.toList then ((lines_Whole.f a0).bind fun t141 => ((concordatref01_Whole.f a0).bind fun t142 => (some (t141.toList == t142.toList)))) else (none)))) else (none))) else (none)) = some r := H
          have A11 := Aside0.mk A110
          clear A110
          by_cases c12 : t137 = true
          · subst c12
            have H1 : ((lines_Count.f a0).bind fun t138 => (if t138 = (t131.length : Int) then ((lines_Join.f l1).bind fun t139 => ((concordatref01_Join.f kj4 l1).bind fun t140 => (if t139.toList = t140.toList then ((lines_Whole.f a0).bind fun t141 => ((concordatref01_Whole.f a0).bind fun t142 => (some (t141.toList == t142.toList)))) else (none)))) else (none))) = some r := by rw [if_pos rfl] at H; exact H
            clear H
            have H := H1
            clear H1
            replace H := Option.bind_eq_some_iff.mp H
            obtain ⟨t138, A130, H⟩ := H
            replace H : (if t138 = (t131.length : Int) then ((lines_Join.f l1).bind fun t139 => ((concordatref01_Join.f kj4 l1).bind fun t140 => (if t139.toList = t140.toList then ((lines_Whole.f a0).bind fun t141 => ((concordatref01_Whole.f a0).bind fun t142 => (some (t141.toList == t142.toList)))) else (none)))) else (none)) = some r := H
            have A13 := Aside0.mk A130
            clear A130
            by_cases c14 : t138 = (t131.length : Int)
            · rw [if_pos c14] at H
              have c14b0 : (t138 == (t131.length : Int)) = true := beq_iff_eq.mpr c14
              have c14b1 : (t138 != (t131.length : Int)) = false := bne_eq_false_iff_eq.mpr c14
              clear c14
              replace H := Option.bind_eq_some_iff.mp H
              obtain ⟨t139, A150, H⟩ := H
              replace H : ((concordatref01_Join.f kj4 l1).bind fun t140 => (if t139.toList = t140.toList then ((lines_Whole.f a0).bind fun t141 => ((concordatref01_Whole.f a0).bind fun t142 => (some (t141.toList == t142.toList)))) else (none))) = some r := H
              have A15 := Aside0.mk A150
              clear A150
              replace H := Option.bind_eq_some_iff.mp H
              obtain ⟨t140, A160, H⟩ := H
              replace H : (if t139.toList = t140.toList then ((lines_Whole.f a0).bind fun t141 => ((concordatref01_Whole.f a0).bind fun t142 => (some (t141.toList == t142.toList)))) else (none)) = some r := H
              have A16 := Aside0.mk A160
              clear A160
              by_cases c17 : t139.toList = t140.toList
              · rw [if_pos c17] at H
                have c17b0 : (t139.toList == t140.toList) = true := beq_iff_eq.mpr c17
                have c17b1 : (t139.toList != t140.toList) = false := bne_eq_false_iff_eq.mpr c17
                clear c17
                replace H := Option.bind_eq_some_iff.mp H
                obtain ⟨t141, A180, H⟩ := H
                replace H : ((concordatref01_Whole.f a0).bind fun t142 => (some (t141.toList == t142.toList))) = some r := H
                have A18 := Aside0.mk A180
                clear A180
                replace H := Option.bind_eq_some_iff.mp H
                obtain ⟨t142, A190, H⟩ := H
                replace H : (some (t141.toList == t142.toList)) = some r := H
                have A19 := Aside0.mk A190
                clear A190
                obtain rfl := Option.some.inj H
                go_wp2_with (first | ((with_reducible refine gate_callee (f := 9) rfl ?_); refine goesL_ (some 19) rfl rfl Try.func9 (by kernel_rfl) rfl #[.string a0] rfl (by (try simp only [List.map_toArray, List.map_cons, List.map_nil]); first | done | rfl | (simp only [List.length_drop, List.length_take]; rfl)) ?_; (with_reducible refine (concordatref01_Split.calls kj4 a0 t131 _ A9.out).mono ?_); rintro e w20 ⟨v132, rfl, ho0, hb⟩; refine ⟨_, rfl, ?_⟩; have n0_ := Aside0.mk (Kd.R_lower ho0 (below_size (by repeat (first | (with_reducible first | exact HB.out | apply below_alloc | apply pw_below_drewN | apply below_drew1) | exact HB.out)))); have n1_ := Aside0.mk (below_step (by repeat (first | (with_reducible first | exact HB.out | apply below_alloc | apply pw_below_drewN | apply below_drew1) | exact HB.out)) hb); clear HB; have HO133 := n0_; have HB := n1_; clear n0_ n1_; (try clear hb); (try clear hb2); (try clear hk); (try clear hi); (try clear ho0)) | ((with_reducible refine gate_callee (f := 11) rfl ?_); refine goesL_ (some 21) rfl rfl Try.func11 (by kernel_rfl) rfl #[.string a0] rfl (by (try simp only [List.map_toArray, List.map_cons, List.map_nil]); first | done | rfl | (simp only [List.length_drop, List.length_take]; rfl)) ?_; (with_reducible refine (lines_Split.calls a0 t134 _ A10.out).mono ?_); rintro e w21 ⟨v135, rfl, ho0, hb⟩; refine ⟨_, rfl, ?_⟩; have n0_ := Aside0.mk (Kd.R_elder' (by (with_reducible repeat (first | apply Kd.R_alloc | apply Kd.R_drewN | apply Kd.R_drew)); exact HO133.out) (Kd.R_base ho0) hb); have n1_ := Aside0.mk (Kd.R_lower (Kd.R_new' ho0 (Kd.R_lt (by (with_reducible repeat (first | apply Kd.R_alloc | apply Kd.R_drewN | apply Kd.R_drew)); exact HO133.out))) (below_size (by repeat (first | (with_reducible first | exact HB.out | apply below_alloc | apply pw_below_drewN | apply below_drew1) | exact HB.out)))); have n2_ := Aside0.mk (below_step (by repeat (first | (with_reducible first | exact HB.out | apply below_alloc | apply pw_below_drewN | apply below_drew1) | exact HB.out)) hb); clear HO133; clear HB; have HO133 := n0_; have HO136 := n1_; have HB := n2_; clear n0_ n1_ n2_; (try clear hb); (try clear hb2); (try clear hk); (try clear hi); (try clear ho0); obtain ⟨Ao22, co22, eo22⟩ := Kd.R_slice HO136.out; subst eo22; obtain ⟨Ao23, co23, eo23⟩ := Kd.R_slice HO133.out; subst eo23) | ((with_reducible refine gate_callee (f := 10) rfl ?_); refine goesL_ (some 23) rfl rfl Try.func10 (by kernel_rfl) rfl #[.slice Ao22 t134.length co22, .slice Ao23 t131.length co23] rfl (by (try simp only [List.map_toArray, List.map_cons, List.map_nil]); first | done | rfl | (simp only [List.length_drop, List.length_take]; rfl)) ?_; (with_reducible refine (concordatref01_Same.calls kj4 _ _ t134 _ _ t131 true _ ?side1 ?side2 ?side3 ?side4 A11.out).mono ?_); (case side1 => repeat (first | exact (Kd.R_reads' HO136.out).2.2 | (with_reducible refine Kd.C_alloc ?_ _) | (with_reducible refine Kd.C_drewN ?_ _) | (with_reducible refine Kd.C_drew ?_))); (case side2 => exact (Kd.R_reads' HO136.out).2.1); (case side3 => repeat (first | exact (Kd.R_reads' HO133.out).2.2 | (with_reducible refine Kd.C_alloc ?_ _) | (with_reducible refine Kd.C_drewN ?_ _) | (with_reducible refine Kd.C_drew ?_))); (case side4 => exact (Kd.R_reads' HO133.out).2.1); rintro e w' ⟨rfl, ⟨nd, rfl⟩⟩; refine ⟨_, rfl, ?_⟩) | (go_at_call 12; (with_reducible refine (lines_Count.calls a0 t138 _ A13.out).mono ?_); rintro e w' ⟨rfl, ⟨nd, rfl⟩⟩) | (go_at_call 13; (with_reducible refine (lines_Join.calls _ _ l1 t139 _ ?side1 ?side2 A15.out).mono ?_); (case side1 => repeat (first | exact (Kd.C_below HR1.out (by repeat (first | (with_reducible first | exact HB.out | apply below_alloc | apply pw_below_drewN | apply below_drew1) | exact HB.out))) | (with_reducible refine Kd.C_alloc ?_ _) | (with_reducible refine Kd.C_drewN ?_ _) | (with_reducible refine Kd.C_drew ?_))); (case side2 => exact HC1.out); rintro e w24 ⟨rfl, hb⟩; have n0_ := Aside0.mk (Kd.R_below (by (with_reducible repeat (first | apply Kd.R_alloc | apply Kd.R_drewN | apply Kd.R_drew)); exact HO133.out) hb); have n1_ := Aside0.mk (Kd.R_below (by (with_reducible repeat (first | apply Kd.R_alloc | apply Kd.R_drewN | apply Kd.R_drew)); exact HO136.out) hb); have n2_ := Aside0.mk (below_step (by repeat (first | (with_reducible first | exact HB.out | apply below_alloc | apply pw_below_drewN | apply below_drew1) | exact HB.out)) hb); clear HO133; clear HO136; clear HB; have HO133 := n0_; have HO136 := n1_; have HB := n2_; clear n0_ n1_ n2_; (try clear hb); (try clear hb2); (try clear hk); (try clear hi)) | (go_at_call 14; (with_reducible refine (concordatref01_Join.calls kj4 _ _ l1 t140 _ ?side1 ?side2 A16.out).mono ?_); (case side1 => repeat (first | exact (Kd.C_below HR1.out HB.out) | (with_reducible refine Kd.C_alloc ?_ _) | (with_reducible refine Kd.C_drewN ?_ _) | (with_reducible refine Kd.C_drew ?_))); (case side2 => exact HC1.out); rintro e w' ⟨rfl, ⟨nd, rfl⟩⟩) | (go_at_call 15; (with_reducible refine (lines_Whole.calls a0 t141 _ A18.out).mono ?_); rintro e w' ⟨rfl, ⟨nd, rfl⟩⟩) | (go_at_call 16; (with_reducible refine (concordatref01_Whole.calls a0 t142 _ A19.out).mono ?_); rintro e w' ⟨rfl, ⟨nd, rfl⟩⟩))
                go_ret
                exact ⟨by first | rfl | (simp [errW_none, errW_some] <;> rfl) | (simp [*, errW_none, errW_some] <;> rfl), by repeat (first | (with_reducible first | exact HB.out | apply below_alloc | apply pw_below_drewN | apply below_drew1) | exact HB.out)⟩
              · rw [if_neg c17] at H
                exact absurd H (by simp)
            · rw [if_neg c14] at H
              exact absurd H (by simp)
          · replace c12 := Bool.eq_false_iff.mpr c12
            subst c12
            have H1 : (none) = some r := by rw [if_neg (show ¬ (false = true) by decide)] at H; exact H
            clear H
            have H := H1
            clear H1
            exact absurd H (by simp)
  · replace c4 := Bool.eq_false_iff.mpr c4
    subst c4
    have H1 : (none) = some r := by rw [if_neg (show ¬ (false = true) by decide)] at H; exact H
    clear H
    have H := H1
    clear H1
    exact absurd H (by simp)

end Go.Proofs.Ythgmnnlnggalgaa.PLines
