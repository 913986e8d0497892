/- Between hunks there is at least one thing that stays, at every input. -/
import Derived.Test.YtphghffdaceaoaaPHunkx19
import Derived.Test.YtphghffdaceaoaaOpen
namespace Go.Proofs.Ytphghffdaceaoaa.Pure
open Go.RowKit Go.Proofs.Ytphghffdaceaoaa Go.Proofs.Ytphghffdaceaoaa.PHunk Go.Proofs.YtphghffdaceaoaaW.PrintWords Go.Proofs.YtphghffdaceaoaaW.PrintLast Go.Proofs.YtphghffdaceaoaaW.PrintMore
set_option linter.unusedVariables false
set_option linter.unusedSimpArgs false
/-! ### the longest common rows: mathematics alone -/
def lcs : List Int → List Int → Nat
 | [], _ => 0
 | _ :: _, [] => 0
 | x :: xs, y :: ys => if x = y then lcs xs ys + 1 else max (lcs xs (y :: ys)) (lcs (x :: xs) ys)
termination_by xs ys => xs.length + ys.length
theorem lcs_nil_l (ys : List Int) : lcs [] ys = 0 := by rw [lcs]
theorem lcs_nil_r (xs : List Int) : lcs xs [] = 0 := by cases xs <;> rw [lcs]
theorem lcs_same (x : Int) (xs ys : List Int) : lcs (x :: xs) (x :: ys) = lcs xs ys + 1 := by rw [lcs, if_pos rfl]
theorem lcs_other {x y : Int} (h : x ≠ y) (xs ys : List Int) : lcs (x :: xs) (y :: ys) = max (lcs xs (y :: ys)) (lcs (x :: xs) ys) := by rw [lcs, if_neg h]
theorem lcs_le : ∀ xs ys : List Int, lcs xs ys ≤ xs.length ∧ lcs xs ys ≤ ys.length := by
 intro xs ys
 induction xs, ys using lcs.induct with
 | case1 ys => rw [lcs_nil_l]; exact ⟨Nat.zero_le _, Nat.zero_le _⟩
 | case2 x xs => rw [lcs_nil_r]; exact ⟨Nat.zero_le _, Nat.zero_le _⟩
 | case3 x xs ys ih => rw [lcs_same]; simp only [List.length_cons]; omega
 | case4 x xs y ys h ih1 ih2 => rw [lcs_other h]; simp only [List.length_cons] at *; omega
/-- what of a row is held to be one of the other's things, from place k of that on -/
def held : List Int → List Int → Nat → List Int
 | [], _, _ => []
 | x :: xs, [], _ => List.replicate (xs.length + 1) (-1)
 | x :: xs, y :: ys, k => if x = y then (k : Int) :: held xs ys (k + 1) else if lcs xs (y :: ys) ≥ lcs (x :: xs) ys then (-1) :: held xs (y :: ys) k else held (x :: xs) ys (k + 1)
termination_by xs ys _ => xs.length + ys.length
theorem held_nil_r (xs : List Int) (k : Nat) : held xs [] k = List.replicate xs.length (-1) := by cases xs <;> rw [held] <;> simp
theorem held_same (x : Int) (xs ys : List Int) (k : Nat) : held (x :: xs) (x :: ys) k = (k : Int) :: held xs ys (k + 1) := by rw [held, if_pos rfl]
theorem held_skip {x y : Int} (h : x ≠ y) (xs ys : List Int) (k : Nat) (hg : lcs xs (y :: ys) ≥ lcs (x :: xs) ys) : held (x :: xs) (y :: ys) k = (-1) :: held xs (y :: ys) k := by rw [held, if_neg h, if_pos hg]
theorem held_turn {x y : Int} (h : x ≠ y) (xs ys : List Int) (k : Nat) (hg : ¬ lcs xs (y :: ys) ≥ lcs (x :: xs) ys) : held (x :: xs) (y :: ys) k = held (x :: xs) ys (k + 1) := by rw [held, if_neg h, if_neg hg]
theorem held_length : ∀ (xs ys : List Int) (k : Nat), (held xs ys k).length = xs.length := by
 intro xs ys k
 induction xs, ys, k using held.induct with
 | case1 ys k => rw [held]
 | case2 x xs k => rw [held_nil_r]; simp
 | case3 k x xs ys ih => rw [held_same]; simp [ih]
 | case4 x xs y ys k h hg ih => rw [held_skip h _ _ _ hg]; simp [ih]
 | case5 x xs y ys k h hg ih => rw [held_turn h _ _ _ hg]; exact ih
/-! ### what the printed functions come to -/
theorem w64 {x : Int} (h0 : -9223372036854775808 ≤ x) (h1 : x ≤ 9223372036854775807) : wrap64 x = x := by unfold wrap64; omega
theorem w32 {x : Int} (h0 : -2147483648 ≤ x) (h1 : x ≤ 2147483647) : wrap32 x = x := by unfold wrap32; omega
theorem rd_nat (xs : List Int) (i : Nat) : rd xs (i : Int) = xs.getD i 0 := rfl
theorem getD_set_same {α : Type} {xs : List α} {i : Nat} (h : i < xs.length) (v d : α) : (xs.set i v).getD i d = v := by
 rw [List.getD_eq_getElem?_getD, List.getElem?_set_self h]; rfl
theorem getD_set_other {α : Type} {xs : List α} {i j : Nat} (h : i ≠ j) (v d : α) : (xs.set i v).getD j d = xs.getD j d := by
 rw [List.getD_eq_getElem?_getD, List.getD_eq_getElem?_getD, List.getElem?_set_ne h]
theorem drop_get {xs : List Int} {i : Nat} (h : i < xs.length) : xs.drop i = xs.getD i 0 :: xs.drop (i + 1) := by
 rw [List.drop_eq_getElem_cons h, List.getD_eq_getElem?_getD, List.getElem?_eq_getElem h]; rfl
/-- the table's entry -/
def T (a b : List Int) (i k : Nat) : Nat := lcs (a.drop i) (b.drop k)
theorem T_le (a b : List Int) (i k : Nat) : T a b i k ≤ a.length := Nat.le_trans (lcs_le _ _).1 (by simp)
theorem T_end_l (a b : List Int) (k : Nat) {i : Nat} (h : a.length ≤ i) : T a b i k = 0 := by unfold T; rw [List.drop_eq_nil_of_le h, lcs_nil_l]
theorem T_end_r (a b : List Int) (i : Nat) {k : Nat} (h : b.length ≤ k) : T a b i k = 0 := by unfold T; rw [List.drop_eq_nil_of_le h, lcs_nil_r]
theorem T_same {a b : List Int} {i k : Nat} (hi : i < a.length) (hk : k < b.length) (h : a.getD i 0 = b.getD k 0) : T a b i k = T a b (i + 1) (k + 1) + 1 := by
 unfold T; rw [drop_get hi, drop_get hk, h, lcs_same]
theorem T_other {a b : List Int} {i k : Nat} (hi : i < a.length) (hk : k < b.length) (h : ¬ a.getD i 0 = b.getD k 0) : T a b i k = max (T a b (i + 1) k) (T a b i (k + 1)) := by
 unfold T; rw [drop_get hi, drop_get hk, lcs_other h]
/-- row i of the table is told from place k on -/
def RowFrom (a b : List Int) (i k : Nat) (r : List Int) : Prop := r.length = b.length + 1 ∧ ∀ j, k ≤ j → j ≤ b.length → r.getD j 0 = (T a b i j : Int)
def TabFrom (a b : List Int) (i : Nat) (t : List (List Int)) : Prop := t.length = a.length + 1 ∧ ∀ j, i ≤ j → j ≤ a.length → RowFrom a b j 0 (t.getD j [])
theorem row_zero (a b : List Int) (n : Nat) (hn : n = b.length + 1) {i : Nat} (hi : a.length ≤ i) : RowFrom a b i 0 (List.replicate n 0) := by
 subst hn
 refine ⟨by simp, fun j _ hj => ?_⟩
 rw [T_end_l a b j hi, List.getD_eq_getElem?_getD, List.getElem?_replicate]; split <;> rfl
theorem row_last (a b : List Int) (n : Nat) (hn : n = b.length + 1) (i : Nat) : RowFrom a b i b.length (List.replicate n 0) := by
 subst hn
 refine ⟨by simp, fun j h1 h2 => ?_⟩
 rw [T_end_r a b i h1, List.getD_eq_getElem?_getD, List.getElem?_replicate]; split <;> rfl
theorem row_step {a b : List Int} {i k : Nat} {r : List Int} (h : RowFrom a b i (k + 1) r) (hk : k < b.length) : RowFrom a b i k (r.set k (T a b i k : Int)) := by
 refine ⟨by simpa using h.1, fun j h1 h2 => ?_⟩
 by_cases e : k = j
 ·subst e; exact getD_set_same (by rw [h.1]; omega) _ _
 ·rw [getD_set_other e]; exact h.2 j (by omega) h2
theorem tab_over {a b : List Int} {i : Nat} {t : List (List Int)} (h : TabFrom a b (i + 1) t) (r : List Int) : TabFrom a b (i + 1) (t.set i r) := by
 refine ⟨by simpa using h.1, fun j h1 h2 => ?_⟩
 rw [getD_set_other (by omega)]; exact h.2 j h1 h2
theorem none_runs (n : Nat) (hn : n ≤ 3000) : Ev (fun k => lcs_none.f k (n : Int)) (List.replicate n (-1)) := by
 have loop : ∀ (d j : Nat) (x : List Int), n - j = d → j ≤ n → x.length = n → (∀ i, i < j → x.getD i 0 = -1) → Ev (fun k => lcs_none.l0 k x (n : Int) (j : Int)) (List.replicate n (-1)) := by
  intro d
  induction d with
  | zero =>
   intro j x hd hj hx hp
   refine Ev.step (f := fun _ => some (List.replicate n (-1))) (fun k => ?_) (Ev.now _)
   simp only [lcs_none.l0]
   rw [if_neg (by omega)]
   refine congrArg some (List.ext_getElem? fun i => ?_)
   by_cases hi : i < n
   ·have := hp i (by omega)
    rw [List.getD_eq_getElem?_getD] at this
    rw [List.getElem?_replicate, if_pos hi]
    rw [List.getElem?_eq_getElem (by omega)] at this ⊢
    simpa using this
   ·rw [List.getElem?_eq_none (by omega), List.getElem?_replicate, if_neg hi]
  | succ d ih =>
   intro j x hd hj hx hp
   refine Ev.step (f := fun k => lcs_none.l0 k (x.set j (-1)) (n : Int) ((j + 1 : Nat) : Int)) (fun k => ?_) (ih (j + 1) _ (by omega) (by omega) (by simpa using hx) (fun i hi => ?_))
   ·simp only [lcs_none.l0]
    rw [if_pos (by omega), if_pos (by omega), if_pos (by omega), w64 (by omega) (by omega)]
    rfl
   ·by_cases e : j = i
    ·subst e; exact getD_set_same (by omega) _ _
    ·rw [getD_set_other e]; exact hp i (by omega)
 refine Ev.congr (f := fun k => lcs_none.l0 k (List.replicate n 0) (n : Int) 0) (fun k => ?_) (loop n 0 _ (by omega) (by omega) (by simp) (fun i hi => by omega))
 simp only [lcs_none.f]
 rw [if_pos (by omega), if_pos (by omega)]
 rfl
theorem tab_of_row {a b : List Int} {i : Nat} {t : List (List Int)} (h : TabFrom a b (i + 1) t) (hr : RowFrom a b i 0 (t.getD i [])) : TabFrom a b i t := by
 refine ⟨h.1, fun j h1 h2 => ?_⟩
 by_cases e : i = j
 ·subst e; exact hr
 ·exact h.2 j (by omega) h2
theorem mx_nat (x y : Nat) : mx (x : Int) (y : Int) = ((max x y : Nat) : Int) := by unfold mx; split <;> omega
theorem left_runs (a b : List Int) (ha : a.length ≤ 3000) (hb : b.length ≤ 3000) : ∃ t, TabFrom a b 0 t ∧ Ev (fun k => lcs_left.f k a b) t := by
 have outer : ∀ (i : Nat), i ≤ a.length → ∀ t, TabFrom a b i t → ∃ t', TabFrom a b 0 t' ∧ Ev (fun k => lcs_left.l0 k a b t ((i : Int) - 1)) t' := by
  intro i
  induction i with
  | zero =>
   intro _ t ht
   refine ⟨t, ht, Ev.step (f := fun _ => some t) (fun k => ?_) (Ev.now _)⟩
   simp only [lcs_left.l0]
   rw [if_neg (by omega)]
  | succ i ihi =>
   intro hi t ht
   have inner : ∀ (j : Nat), j ≤ b.length → ∀ t, TabFrom a b (i + 1) t → RowFrom a b i j (t.getD i []) → ∃ t', TabFrom a b 0 t' ∧ Ev (fun k => lcs_left.l1 k a b t (i : Int) ((j : Int) - 1)) t' := by
    intro j
    induction j with
    | zero =>
     intro _ t ht hr
     obtain ⟨t', h1, h2⟩ := ihi (by omega) t (tab_of_row ht hr)
     refine ⟨t', h1, Ev.step (f := fun k => lcs_left.l0 k a b t ((i : Int) - 1)) (fun k => ?_) h2⟩
     simp only [lcs_left.l1]
     rw [if_neg (by omega), w64 (by omega) (by omega)]
    | succ j ihj =>
     intro hj t ht hr
     have hrow := ht.2 (i + 1) (Nat.le_refl _) hi
     have hlen := ht.1
     obtain ⟨t', h1, h2⟩ := ihj (by omega) (t.set i ((t.getD i []).set j (T a b i j : Int))) (tab_over ht _) (by rw [getD_set_same (by omega)]; exact row_step hr (by omega))
     refine ⟨t', h1, Ev.step (f := fun k => lcs_left.l1 k a b (t.set i ((t.getD i []).set j (T a b i j : Int))) (i : Int) ((j : Int) - 1)) (fun k => ?_) h2⟩
     have e1 : ((j + 1 : Nat) : Int) - 1 = (j : Int) := by omega
     have e2 : wrap64 ((i : Int) + 1) = ((i + 1 : Nat) : Int) := by rw [w64 (by omega) (by omega)]; omega
     have e3 : wrap64 ((j : Int) + 1) = ((j + 1 : Nat) : Int) := by rw [w64 (by omega) (by omega)]; omega
     have e4 : wrap64 ((j : Int) - 1) = (j : Int) - 1 := w64 (by omega) (by omega)
     have r1 : rd_L9 t ((i + 1 : Nat) : Int) = t.getD (i + 1) [] := rfl
     have r0 : rd_L9 t (i : Int) = t.getD i [] := rfl
     have hT := T_le a b (i + 1) (j + 1)
     simp only [lcs_left.l1]
     rw [e1, e2, e3, e4, r1, r0, if_pos (by omega), if_pos (by omega), if_pos (by omega), if_pos (by omega), if_pos (by omega)]
     by_cases he : a.getD i 0 = b.getD j 0
     ·rw [if_pos (show rd a (i : Int) = rd b (j : Int) from he), if_pos (by omega), if_pos (by omega), if_pos (by omega), if_pos (by omega), if_pos (by rw [hrow.1]; omega), if_pos (by rw [hr.1]; omega)]
      simp only [rd_nat, Int.toNat_natCast]
      rw [hrow.2 (j + 1) (by omega) (by omega), w32 (by omega) (by omega), T_same (by omega) (by omega) he]
      rfl
     ·rw [if_neg (show ¬ rd a (i : Int) = rd b (j : Int) from he), if_pos (by omega), if_pos (by omega), if_pos (by omega), if_pos (by rw [hrow.1]; omega), if_pos (by omega), if_pos (by rw [hr.1]; omega), if_pos (by rw [hr.1]; omega)]
      simp only [rd_nat, Int.toNat_natCast]
      rw [hrow.2 j (by omega) (by omega), hr.2 (j + 1) (by omega) (by omega), mx_nat, T_other (by omega) (by omega) he]
   have hlen := ht.1
   obtain ⟨t', h1, h2⟩ := inner b.length (Nat.le_refl _) (t.set i (List.replicate (wrap64 ((b.length : Int) + 1)).toNat 0)) (tab_over ht _) (by rw [getD_set_same (by omega)]; exact row_last a b _ (by rw [w64 (by omega) (by omega)]; omega) i)
   refine ⟨t', h1, Ev.step (f := fun k => lcs_left.l1 k a b (t.set i (List.replicate (wrap64 ((b.length : Int) + 1)).toNat 0)) (i : Int) ((b.length : Int) - 1)) (fun k => ?_) h2⟩
   have e1 : ((i + 1 : Nat) : Int) - 1 = (i : Int) := by omega
   have e2 : wrap64 ((b.length : Int) - 1) = (b.length : Int) - 1 := w64 (by omega) (by omega)
   have e3 : wrap64 ((b.length : Int) + 1) = (b.length : Int) + 1 := w64 (by omega) (by omega)
   simp only [lcs_left.l0]
   rw [e1, e2, e3, if_pos (by omega), if_pos (by omega), if_pos (by omega), if_pos (by omega), if_pos (by omega)]
   rfl
 have e3 : wrap64 ((b.length : Int) + 1) = (b.length : Int) + 1 := w64 (by omega) (by omega)
 have e4 : wrap64 ((a.length : Int) + 1) = (a.length : Int) + 1 := w64 (by omega) (by omega)
 have e5 : wrap64 ((a.length : Int) - 1) = (a.length : Int) - 1 := w64 (by omega) (by omega)
 have hl : (List.replicate ((a.length : Int) + 1).toNat ([] : List Int)).length = a.length + 1 := by rw [List.length_replicate]; omega
 obtain ⟨t', h1, h2⟩ := outer a.length (Nat.le_refl _) ((List.replicate ((a.length : Int) + 1).toNat []).set a.length (List.replicate ((b.length : Int) + 1).toNat 0)) ⟨by rw [List.length_set, hl], fun j h1 h2 => by
  obtain rfl : j = a.length := by omega
  rw [getD_set_same (by omega)]
  exact row_zero a b _ (by omega) (Nat.le_refl _)⟩
 refine ⟨t', h1, Ev.congr (fun k => ?_) h2⟩
 simp only [lcs_left.f]
 rw [e3, e4, e5, if_pos (by omega), if_pos (by omega), Option.bind_some, if_pos (by omega), if_pos (by omega), if_pos (by omega), if_pos (by rw [hl]; omega)]
 rfl
theorem w64s (i : Nat) (h : i ≤ 1000000000) : wrap64 ((i : Int) + 1) = ((i + 1 : Nat) : Int) := by rw [w64 (by omega) (by omega)]; omega
theorem set_mid (pre : List Int) (n : Nat) (v : Int) : (pre ++ List.replicate (n + 1) (-1)).set pre.length v = (pre ++ [v]) ++ List.replicate n (-1) := by
 rw [List.set_append_right _ _ (Nat.le_refl _), Nat.sub_self, List.replicate_succ, List.set_cons_zero, List.append_assoc]
 rfl
theorem match_loop (a b : List Int) (ha : a.length ≤ 3000) (hb : b.length ≤ 3000) (t : List (List Int)) (ht : TabFrom a b 0 t) : ∀ (d i j : Nat) (pre : List Int), (a.length - i) + (b.length - j) = d → i ≤ a.length → j ≤ b.length → pre.length = i →
  Ev (fun k => lcs_Match.l0 k a b (pre ++ List.replicate (a.length - i) (-1)) t (i : Int) (j : Int)) (pre ++ held (a.drop i) (b.drop j) j) := by
 intro d
 induction d using Nat.strongRecOn with
 | _ d ih =>
 intro i j pre hd hi hj hp
 by_cases h1 : i < a.length
 ·by_cases h2 : j < b.length
  ·have hn : a.length - i = (a.length - (i + 1)) + 1 := (Nat.succ_pred_eq_of_pos (Nat.sub_pos_of_lt h1)).symm
   have hlen := ht.1
   have r1 := ht.2 (i + 1) (Nat.zero_le _) (by omega)
   have r0 := ht.2 i (Nat.zero_le _) (by omega)
   have q1 : rd_L9 t ((i + 1 : Nat) : Int) = t.getD (i + 1) [] := rfl
   have q0 : rd_L9 t (i : Int) = t.getD i [] := rfl
   have hol : (pre ++ List.replicate (a.length - i) (-1)).length = a.length := by rw [List.length_append, List.length_replicate]; omega
   refine Ev.step (f := fun k => lcs_Match.j2 k a b (pre ++ List.replicate (a.length - i) (-1)) t (i : Int) (j : Int) true) (fun k => ?_) ?_
   ·simp only [lcs_Match.l0]
    rw [if_pos (by omega), decide_eq_true (by omega)]
   by_cases he : a.getD i 0 = b.getD j 0
   ·refine Ev.step (f := fun k => lcs_Match.l0 k a b ((pre ++ [(j : Int)]) ++ List.replicate (a.length - (i + 1)) (-1)) t ((i + 1 : Nat) : Int) ((j + 1 : Nat) : Int)) (fun k => ?_) ?_
    ·simp only [lcs_Match.j2]
     rw [if_pos trivial, if_pos (by omega), if_pos (by omega), if_pos (by omega), if_pos (by omega), if_pos (show rd a (i : Int) = rd b (j : Int) from he), if_pos (by rw [hol]; omega), w64s i (by omega), w64s j (by omega)]
     rw [Int.toNat_natCast, hn, ← hp, set_mid, hp]
    ·have := ih ((a.length - (i + 1)) + (b.length - (j + 1))) (by omega) (i + 1) (j + 1) (pre ++ [(j : Int)]) rfl (by omega) (by omega) (by rw [List.length_append, hp]; rfl)
     rw [drop_get h1, drop_get h2, he, held_same]
     simpa using this
   ·by_cases hg : T a b (i + 1) j ≥ T a b i (j + 1)
    ·refine Ev.step (f := fun k => lcs_Match.l0 k a b ((pre ++ [-1]) ++ List.replicate (a.length - (i + 1)) (-1)) t ((i + 1 : Nat) : Int) (j : Int)) (fun k => ?_) ?_
     ·simp only [lcs_Match.j2]
      rw [if_pos trivial, if_pos (by omega), if_pos (by omega), if_pos (by omega), if_pos (by omega), if_neg (show ¬ rd a (i : Int) = rd b (j : Int) from he), w64s i (by omega), w64s j (by omega), q1, q0, if_pos (by omega), if_pos (by omega), if_pos (by rw [r1.1]; omega), if_pos (by omega), if_pos (by omega), if_pos (by rw [r0.1]; omega), if_pos (by rw [rd_nat, rd_nat, r1.2 j (by omega) (by omega), r0.2 (j + 1) (by omega) (by omega)]; omega)]
      rw [show a.length - i = (a.length - (i + 1)) + 1 by omega, List.replicate_succ, List.append_assoc]
      rfl
     ·have := ih ((a.length - (i + 1)) + (b.length - j)) (by omega) (i + 1) j (pre ++ [-1]) rfl (by omega) (by omega) (by rw [List.length_append, hp]; rfl)
      rw [drop_get h1, drop_get h2, held_skip he _ _ _ (by rw [← drop_get h1, ← drop_get h2]; exact hg), ← drop_get h2]
      simpa using this
    ·refine Ev.step (f := fun k => lcs_Match.l0 k a b (pre ++ List.replicate (a.length - i) (-1)) t (i : Int) ((j + 1 : Nat) : Int)) (fun k => ?_) ?_
     ·simp only [lcs_Match.j2]
      rw [if_pos trivial, if_pos (by omega), if_pos (by omega), if_pos (by omega), if_pos (by omega), if_neg (show ¬ rd a (i : Int) = rd b (j : Int) from he), w64s i (by omega), w64s j (by omega), q1, q0, if_pos (by omega), if_pos (by omega), if_pos (by rw [r1.1]; omega), if_pos (by omega), if_pos (by omega), if_pos (by rw [r0.1]; omega), if_neg (by rw [rd_nat, rd_nat, r1.2 j (by omega) (by omega), r0.2 (j + 1) (by omega) (by omega)]; omega)]
     ·have := ih ((a.length - i) + (b.length - (j + 1))) (by omega) i (j + 1) pre rfl (by omega) (by omega) hp
      rw [drop_get h1, drop_get h2, held_turn he _ _ _ (by rw [← drop_get h1, ← drop_get h2]; exact hg), ← drop_get h1]
      exact this
  ·refine Ev.step (f := fun k => lcs_Match.j2 k a b (pre ++ List.replicate (a.length - i) (-1)) t (i : Int) (j : Int) false) (fun k => ?_) (Ev.step (f := fun _ => some (pre ++ List.replicate (a.length - i) (-1))) (fun k => ?_) ?_)
   ·simp only [lcs_Match.l0]
    rw [if_pos (by omega), decide_eq_false (by omega)]
   ·simp only [lcs_Match.j2]
    rw [if_neg (by decide)]
   ·rw [List.drop_eq_nil_of_le (by omega : b.length ≤ j), held_nil_r, List.length_drop]
    exact Ev.now _
 ·refine Ev.step (f := fun k => lcs_Match.j2 k a b (pre ++ List.replicate (a.length - i) (-1)) t (i : Int) (j : Int) false) (fun k => ?_) (Ev.step (f := fun _ => some (pre ++ List.replicate (a.length - i) (-1))) (fun k => ?_) ?_)
  ·simp only [lcs_Match.l0]
   rw [if_neg (by omega)]
  ·simp only [lcs_Match.j2]
   rw [if_neg (by decide)]
  ·rw [List.drop_eq_nil_of_le (by omega : a.length ≤ i), show a.length - i = 0 by omega, held]
   exact Ev.now _
theorem match_runs (a b : List Int) (ha : a.length ≤ 2000) (hb : b.length ≤ 2000) : Ev (fun k => lcs_Match.f k a b) (held a b 0) := by
 obtain ⟨t, ht, he⟩ := left_runs a b (by omega) (by omega)
 refine Ev.bind (f := fun k t140 => if (a.length : Int) > 2000 then lcs_Match.j0 k a b t140 true else lcs_Match.j0 k a b t140 (decide ((b.length : Int) > 2000))) (none_runs a.length (by omega)) ?_
 refine Ev.congr (f := fun k => lcs_Match.j0 k a b (List.replicate a.length (-1)) false) (fun k => ?_) (Ev.step (f := fun k => (lcs_left.f k a b).bind fun t146 => lcs_Match.l0 k a b (List.replicate a.length (-1)) t146 0 0) (fun k => ?_) (Ev.bind he ?_))
 ·show (if (a.length : Int) > 2000 then _ else _) = _
  rw [if_neg (by omega), decide_eq_false (by omega)]
 ·simp only [lcs_Match.j0]
  rw [if_neg (by decide)]
 ·have := match_loop a b (by omega) (by omega) t ht _ 0 0 [] rfl (by omega) (by omega) rfl
  simpa using this
/-! ### laws of the longest common rows -/
/-- rising places, at which the things are alike -/
def Rises (b : List Int) : List Int → List Int → Int → Prop
 | x :: xs, m :: l, last => if m < 0 then Rises b xs l last else (last < m ∧ m < b.length ∧ b.getD m.toNat 0 = x) ∧ Rises b xs l m
 | [], [], _ => True
 | _, _, _ => False
theorem rises_none (b : List Int) : ∀ (xs : List Int) (last : Int), Rises b xs (List.replicate xs.length (-1)) last := by
 intro xs
 induction xs with
 | nil => intro last; trivial
 | cons x xs ih => intro last; rw [List.length_cons, List.replicate_succ, Rises, if_pos (by omega)]; exact ih last
theorem held_rises (b : List Int) : ∀ (xs ys : List Int) (k : Nat) (last : Int), ys = b.drop k → last < k → Rises b xs (held xs ys k) last := by
 intro xs ys k
 induction xs, ys, k using held.induct with
 | case1 ys k => intro last _ _; rw [held]; trivial
 | case2 x xs k => intro last _ _; rw [held_nil_r]; exact rises_none b _ _
 | case3 xs x ys k ih =>
  intro last hy hl
  have hk : k < b.length := by
   rcases Nat.lt_or_ge k b.length with h | h
   ·exact h
   ·rw [List.drop_eq_nil_of_le h] at hy; cases hy
  rw [drop_get hk] at hy
  injection hy with e1 e2
  rw [held_same, Rises, if_neg (by omega)]
  exact ⟨⟨hl, by omega, e1.symm⟩, ih _ e2 (by omega)⟩
 | case4 x xs y ys k h hg ih => intro last hy hl; rw [held_skip h _ _ _ hg, Rises, if_pos (by omega)]; exact ih _ hy hl
 | case5 x xs y ys k h hg ih =>
  intro last hy hl
  have hk : k < b.length := by
   rcases Nat.lt_or_ge k b.length with h | h
   ·exact h
   ·rw [List.drop_eq_nil_of_le h] at hy; cases hy
  rw [drop_get hk] at hy
  injection hy with e1 e2
  rw [held_turn h _ _ _ hg]; exact ih _ e2 (by omega)
/-! ### the reference -/
/-! ### texts as numbers: what both come to -/
def grow (l : List ByteArray) (s : ByteArray) : List ByteArray := if lcs_Numbers.has l s = true then l else l ++ [s]
def seenBy : List ByteArray → List ByteArray → List ByteArray
 | [], l => l
 | s :: r, l => seenBy r (grow l s)
def nums : List ByteArray → List ByteArray → List Int
 | [], _ => []
 | s :: r, l => (lcs_Numbers.ix l s : Int) :: nums r (grow l s)
def numsAll : List (List ByteArray) → List ByteArray → List (List Int)
 | [], _ => []
 | r :: rs, l => nums r l :: numsAll rs (seenBy r l)
theorem grow_length (l : List ByteArray) (s : ByteArray) : (grow l s).length ≤ l.length + 1 := by unfold grow; split <;> simp
theorem seenBy_length : ∀ (r l : List ByteArray), (seenBy r l).length ≤ l.length + r.length
 | [], l => by simp [seenBy]
 | s :: r, l => by
  have h1 := seenBy_length r (grow l s)
  have h2 := grow_length l s
  rw [seenBy, List.length_cons]; omega
theorem nums_length : ∀ (r l : List ByteArray), (nums r l).length = r.length
 | [], l => rfl
 | s :: r, l => by rw [nums, List.length_cons, List.length_cons, nums_length r]
theorem ix_le (l : List ByteArray) (s : ByteArray) : lcs_Numbers.ix l s ≤ l.length := List.findIdx_le_length
theorem has_iff (l : List ByteArray) (s : ByteArray) : lcs_Numbers.has l s = true ↔ lcs_Numbers.ix l s < l.length := by
 unfold lcs_Numbers.has lcs_Numbers.ix
 rw [List.findIdx_lt_length, List.any_eq_true]
theorem ix_none {l : List ByteArray} {s : ByteArray} (h : ¬ lcs_Numbers.has l s = true) : lcs_Numbers.ix l s = l.length := by
 have h1 := ix_le l s
 rw [has_iff] at h; omega
theorem drop_getS {xs : List ByteArray} {i : Nat} (h : i < xs.length) : xs.drop i = xs.getD i ByteArray.empty :: xs.drop (i + 1) := by
 rw [List.drop_eq_getElem_cons h, List.getD_eq_getElem?_getD, List.getElem?_eq_getElem h]; rfl
theorem drop_getL {α : Type} {xs : List (List α)} {i : Nat} (h : i < xs.length) : xs.drop i = xs.getD i [] :: xs.drop (i + 1) := by
 rw [List.drop_eq_getElem_cons h, List.getD_eq_getElem?_getD, List.getElem?_eq_getElem h]; rfl
theorem getD_memS {α : Type} {xs : List α} {i : Nat} (h : i < xs.length) (d : α) : xs.getD i d ∈ xs := by
 rw [List.getD_eq_getElem?_getD, List.getElem?_eq_getElem h]; exact List.getElem_mem h
/-- rows that are short enough -/
def Few (rows : List (List ByteArray)) : Prop := rows.length ≤ 1000 ∧ ∀ r ∈ rows, r.length ≤ 1000 ∧ ∀ s ∈ r, s.size ≤ 140737488355328
theorem numbers_row {rows : List (List ByteArray)} (hf : Few rows) {i : Nat} (hi : i < rows.length) (out : List (List Int)) (hout : out.length = i) (res : List (List Int)) :
  ∀ (d j : Nat) (seen : List ByteArray) (l : List Int), (rows.getD i []).length - j = d → j ≤ (rows.getD i []).length → seen.length ≤ i * 1000 + j → l.length = j →
   Ev (fun k => lcs_Numbers.l0 k rows (seenBy ((rows.getD i []).drop j) seen) (out ++ [l ++ nums ((rows.getD i []).drop j) seen]) ((i + 1 : Nat) : Int)) res →
   Ev (fun k => lcs_Numbers.l1 k rows seen out (i : Int) l (j : Int)) res := by
 obtain ⟨hr, hs⟩ := hf.2 _ (getD_memS hi [])
 have hn := hf.1
 intro d
 induction d with
 | zero =>
  intro j seen l hd hj hseen hl h
  have e0 : (rows.getD i []).drop j = [] := List.drop_eq_nil_of_le (by omega)
  rw [e0, seenBy, nums, List.append_nil] at h
  refine Ev.step (fun k => ?_) h
  simp only [lcs_Numbers.l1]
  rw [if_neg (show ¬ (j : Int) < ((rd_L5 rows (i : Int)).length : Int) from (show ¬ (j : Int) < ((rows.getD i []).length : Int) by omega)), if_pos (by omega), w64s i (by omega)]
 | succ d ih =>
  intro j seen l hd hj hseen hl h
  have hj' : j < (rows.getD i []).length := by omega
  rw [drop_getS hj', seenBy, nums] at h
  have hz := hs _ (getD_memS hj' ByteArray.empty)
  refine Ev.step (f := fun k => lcs_Numbers.l1 k rows (grow seen ((rows.getD i []).getD j ByteArray.empty)) out (i : Int) (l ++ [(lcs_Numbers.ix seen ((rows.getD i []).getD j ByteArray.empty) : Int)]) ((j + 1 : Nat) : Int)) (fun k => ?_)
   (ih (j + 1) _ _ (by omega) (by omega) (Nat.le_trans (grow_length _ _) (by omega)) (by simp [hl]) (by rw [List.append_assoc]; exact h))
  simp only [lcs_Numbers.l1]
  rw [if_pos (show (j : Int) < ((rd_L5 rows (i : Int)).length : Int) from (show (j : Int) < ((rows.getD i []).length : Int) by omega)), if_pos (by omega), if_pos (show (rdOf ByteArray.empty (rd_L5 rows (i : Int)) (j : Int)).size ≤ 140737488355328 from hz), if_pos (by omega), if_pos (by omega), w64s j (by omega)]
  show (if lcs_Numbers.has seen ((rows.getD i []).getD j ByteArray.empty) = true then _ else _) = _
  by_cases hh : lcs_Numbers.has seen ((rows.getD i []).getD j ByteArray.empty) = true
  ·rw [if_pos hh, grow, if_pos hh]; rfl
  ·rw [if_neg hh, grow, if_neg hh, ix_none hh]; rfl
theorem numbers_rows {rows : List (List ByteArray)} (hf : Few rows) : ∀ (d i : Nat) (seen : List ByteArray) (out : List (List Int)), rows.length - i = d → i ≤ rows.length → seen.length ≤ i * 1000 → out.length = i →
  Ev (fun k => lcs_Numbers.l0 k rows seen out (i : Int)) (out ++ numsAll (rows.drop i) seen) := by
 have hn := hf.1
 intro d
 induction d with
 | zero =>
  intro i seen out hd hi hseen hout
  rw [List.drop_eq_nil_of_le (by omega), numsAll, List.append_nil]
  refine Ev.step (f := fun _ => some out) (fun k => ?_) (Ev.now _)
  simp only [lcs_Numbers.l0]
  rw [if_neg (by omega)]
 | succ d ih =>
  intro i seen out hd hi hseen hout
  have hi' : i < rows.length := by omega
  have hr := (hf.2 _ (getD_memS hi' [])).1
  rw [drop_getL hi', numsAll]
  refine Ev.step (f := fun k => lcs_Numbers.l1 k rows seen out (i : Int) [] ((0 : Nat) : Int)) (fun k => ?_) ?_
  ·simp only [lcs_Numbers.l0]
   rw [if_pos (by omega), if_pos (by omega)]; rfl
  ·refine numbers_row hf hi' out hout _ _ 0 seen [] rfl (Nat.zero_le _) (by rw [Nat.add_zero]; exact hseen) rfl ?_
   rw [List.drop_zero, List.nil_append, show out ++ nums (rows.getD i []) seen :: numsAll (rows.drop (i + 1)) (seenBy (rows.getD i []) seen) = (out ++ [nums (rows.getD i []) seen]) ++ numsAll (rows.drop (i + 1)) (seenBy (rows.getD i []) seen) by rw [List.append_assoc]; rfl]
   exact ih (i + 1) _ _ (by omega) (by omega) (Nat.le_trans (seenBy_length _ _) (by omega)) (by simp [hout])
theorem numbers_run {rows : List (List ByteArray)} (hf : Few rows) : Ev (fun k => lcs_Numbers.f k rows) (numsAll rows []) := by
 have := numbers_rows hf _ 0 [] [] rfl (Nat.zero_le _) (Nat.zero_le _) rfl
 unfold lcs_Numbers.f
 simpa using this
/-! the document's own -/
/-! what hunks a match leaves -/
theorem wi (i : Nat) (h : i ≤ 1000000000) : wrap64 ((i : Int) + 1) = ((i + 1 : Nat) : Int) := by rw [w64 (by omega) (by omega)]; omega
def mt (n : Int) : List Int → Int → Bool
 | [], _ => decide (n ≥ 0)
 | x :: l, last => if x < -1 then false else if x ≥ n then false else if x ≥ 0 then (if x ≤ last then false else mt n l (mx last x)) else mt n l (mx last x)
theorem match_ev (m : List Int) (n : Int) (hm : m.length ≤ 1000000) : ∀ (d i : Nat) (last : Int), m.length - i = d → i ≤ m.length → Ev (fun k => hunk_match.l0 k n last m (m.length : Int) (i : Int)) (mt n (m.drop i) last) := by
 intro d
 induction d with
 | zero =>
  intro i last hd hi
  rw [List.drop_eq_nil_of_le (by omega), mt]
  exact Ev.step (f := fun _ => some (decide (n ≥ 0))) (fun k => by simp only [hunk_match.l0]; rw [if_neg (by omega)]) (Ev.now _)
 | succ d ih =>
  intro i last hd hi
  rw [drop_get (show i < m.length by omega), mt]
  have hx : rd m (i : Int) = m.getD i 0 := rfl
  by_cases h1 : m.getD i 0 < -1
  ·rw [if_pos h1]
   exact Ev.step (f := fun _ => some false) (fun k => by simp only [hunk_match.l0]; rw [if_pos (by omega), if_pos (by omega), if_pos (by omega), hx, if_pos h1]) (Ev.now _)
  ·rw [if_neg h1]
   by_cases h2 : m.getD i 0 ≥ n
   ·rw [if_pos h2]
    exact Ev.step (f := fun _ => some false) (fun k => by simp only [hunk_match.l0]; rw [if_pos (by omega), if_pos (by omega), if_pos (by omega), hx, if_neg h1, if_pos h2]) (Ev.now _)
   ·rw [if_neg h2]
    have hn := ih (i + 1) (mx last (m.getD i 0)) (by omega) (by omega)
    by_cases h3 : m.getD i 0 ≥ 0
    ·rw [if_pos h3]
     by_cases h4 : m.getD i 0 ≤ last
     ·rw [if_pos h4]
      exact Ev.step (f := fun _ => some false) (fun k => by simp only [hunk_match.l0]; rw [if_pos (by omega), if_pos (by omega), if_pos (by omega), hx, if_neg h1, if_neg h2, if_pos h3, if_pos h4]) (Ev.now _)
     ·rw [if_neg h4]
      exact Ev.step (fun k => by simp only [hunk_match.l0]; rw [if_pos (by omega), if_pos (by omega), if_pos (by omega), hx, if_neg h1, if_neg h2, if_pos h3, if_neg h4, wi i (by omega)]) hn
    ·rw [if_neg h3]
     exact Ev.step (fun k => by simp only [hunk_match.l0]; rw [if_pos (by omega), if_pos (by omega), if_pos (by omega), hx, if_neg h1, if_neg h2, if_neg h3, wi i (by omega)]) hn
theorem match_mt (m : List Int) (n : Int) (hm : m.length ≤ 1000000) : Ev (fun k => hunk_match.f k m n) (mt n m (-1)) := match_ev m n hm _ 0 (-1) rfl (Nat.zero_le _)
/-- what is held rises from b on, below n -/
def Ris (n : Int) : List Int → Int → Prop
 | [], b => b ≤ n
 | x :: l, b => if x < 0 then Ris n l b else b ≤ x ∧ x < n ∧ Ris n l (x + 1)
theorem ris_of (n : Int) : ∀ (l : List Int) (last : Int), -1 ≤ last → last < n ∨ last = -1 → mt n l last = true → 0 ≤ n ∧ Ris n l (last + 1)
 | [], last, h0, h1, h => by
  rw [mt] at h
  have := of_decide_eq_true h
  exact ⟨this, by rw [Ris]; omega⟩
 | x :: l, last, h0, h1, h => by
  rw [mt] at h
  rw [Ris]
  by_cases a1 : x < -1
  ·rw [if_pos a1] at h; cases h
  rw [if_neg a1] at h
  by_cases a2 : x ≥ n
  ·rw [if_pos a2] at h; cases h
  rw [if_neg a2] at h
  by_cases a3 : x ≥ 0
  ·rw [if_pos a3] at h
   by_cases a4 : x ≤ last
   ·rw [if_pos a4] at h; cases h
   rw [if_neg a4] at h
   have e : mx last x = x := by unfold mx; split <;> omega
   rw [e] at h
   obtain ⟨g1, g2⟩ := ris_of n l x (by omega) (by omega) h
   rw [if_neg (by omega)]
   exact ⟨g1, by omega, by omega, g2⟩
  ·rw [if_neg a3] at h
   have e : mx last x = last := by unfold mx; split <;> omega
   rw [e] at h
   obtain ⟨g1, g2⟩ := ris_of n l last h0 h1 h
   rw [if_pos (by omega)]
   exact ⟨g1, g2⟩
def hk (n : Int) : List Int → Int → Int → Int → List S40
 | [], i, a, b => if i > a ∨ n > b then [⟨a, i - a, b, n - b⟩] else []
 | x :: l, i, a, b => if x < 0 then hk n l (i + 1) a b else (if i > a ∨ x > b then [⟨a, i - a, b, x - b⟩] else []) ++ hk n l (i + 1) (i + 1) (x + 1)
theorem go_hk (n : Int) (hn : n ≤ 1000000000) : ∀ (l : List Int) (i : Nat) (u : List S40) (a b : Int), Ris n l b → ∃ s, hunk_Of.go l i (u, a, b) = some s ∧ (hunk_Of.up ((i + l.length : Nat) : Int) n s).1 = u ++ hk n l i a b
 | [], i, u, a, b, _ => by
  refine ⟨_, rfl, ?_⟩
  unfold hunk_Of.up hk
  dsimp only
  simp only [List.length_nil, Nat.add_zero]
  split <;> simp
 | x :: l, i, u, a, b, h => by
  rw [Ris] at h
  rw [hunk_Of.go, hk]
  have e : ((i + (x :: l).length : Nat) : Int) = ((i + 1 + l.length : Nat) : Int) := by simp only [List.length_cons]; omega
  rw [e]
  by_cases h0 : x < 0
  ·rw [if_pos h0] at h
   obtain ⟨s, h1, h2⟩ := go_hk n hn l (i + 1) u a b h
   refine ⟨s, by rw [if_neg (by omega)]; exact h1, ?_⟩
   rw [h2, if_pos h0]; simp
  ·rw [if_neg h0] at h
   obtain ⟨g1, g2, g3⟩ := h
   obtain ⟨s, h1, h2⟩ := go_hk n hn l (i + 1) (hunk_Of.up i x (u, a, b)).1 ((i : Int) + 1) (x + 1) g3
   refine ⟨s, by rw [if_pos (by omega), if_pos (by omega)]; exact h1, ?_⟩
   rw [h2, if_neg h0]
   unfold hunk_Of.up
   dsimp only
   split <;> simp
def O (m : List Int) (n : Int) : List S40 := if mt n m (-1) = true then hk n m 0 0 0 else []
theorem of_runs (m : List Int) (n : Int) (hm : m.length ≤ 1000000) (hn : n ≤ 1000000000) : Ev (fun k => hunk_Of.f k m n) (O m n) := by
 refine Ev.congr (fun k => if_pos ⟨hm, by omega⟩) (Ev.bind (match_mt m n hm) ?_)
 unfold O
 by_cases h : mt n m (-1) = true
 ·obtain ⟨h0, h1⟩ := ris_of n m (-1) (by omega) (.inr rfl) h
  obtain ⟨s, g1, g2⟩ := go_hk n hn m 0 [] 0 0 h1
  refine Ev.congr (f := fun _ => some (hk n m 0 0 0)) (fun k => ?_) (by rw [if_pos h]; exact Ev.now _)
  rw [if_pos h, if_pos h0, g1, Option.bind_some]
  rw [Nat.zero_add, List.nil_append] at g2
  rw [g2]; rfl
 ·exact Ev.congr (f := fun _ => some []) (fun k => if_neg h) (by rw [if_neg h]; exact Ev.now _)
theorem hk_length (n : Int) : ∀ (l : List Int) (i a b : Int), (hk n l i a b).length ≤ l.length + 1
 | [], i, a, b => by rw [hk]; split <;> simp
 | x :: l, i, a, b => by
  rw [hk]
  split
  ·have := hk_length n l (i + 1) a b; simp only [List.length_cons]; omega
  ·have := hk_length n l (i + 1) (i + 1) (x + 1)
   rw [List.length_append, List.length_cons]
   split <;> simp <;> omega
theorem O_length (m : List Int) (n : Int) : (O m n).length ≤ m.length + 1 := by
 unfold O
 split
 ·exact hk_length n m 0 0 0
 ·simp
theorem at40 {L : List S40} {i : Nat} {y : S40} {r : List S40} (h : L.drop i = y :: r) : i < L.length ∧ rd_T40 L (i : Int) = y ∧ L.drop (i + 1) = r := by
 have h1 : i < L.length := by
  rcases Nat.lt_or_ge i L.length with g | g
  ·exact g
  ·rw [List.drop_eq_nil_of_le g] at h; cases h
 rw [List.drop_eq_getElem_cons h1] at h
 injection h with e1 e2
 refine ⟨h1, ?_, e2⟩
 show L.getD i z40 = y
 rw [List.getD_eq_getElem?_getD, List.getElem?_eq_getElem h1]; exact e1
theorem awake_runs : Ev (fun k => l06_awake.f k) true := Ev.of (l06_awake.mono) (k := 60) (by decide +kernel)
def na (a : List ByteArray) : List Int := nums a []
def nb (a b : List ByteArray) : List Int := nums b (seenBy a [])
theorem na_length (a : List ByteArray) : (na a).length = a.length := nums_length _ _
theorem nb_length (a b : List ByteArray) : (nb a b).length = b.length := nums_length _ _
theorem few2 {a b : List ByteArray} (ha : a.length ≤ 1000) (hb : b.length ≤ 1000) (sa : ∀ x ∈ a, x.size ≤ 140737488351232) (sb : ∀ x ∈ b, x.size ≤ 140737488351232) : Few [a, b] := ⟨by simp, fun r hr => by
 rcases List.mem_cons.1 hr with rfl | hr
 ·exact ⟨ha, fun s hm => Nat.le_trans (sa s hm) (by decide)⟩
 rcases List.mem_cons.1 hr with rfl | hr
 ·exact ⟨hb, fun s hm => Nat.le_trans (sb s hm) (by decide)⟩
 ·cases hr⟩
theorem ltexts_runs {a b : List ByteArray} (ha : a.length ≤ 1000) (hb : b.length ≤ 1000) (hf : Few [a, b]) : Ev (fun k => lcs_Texts.f k a b) (held (na a) (nb a b) 0) := by
 unfold lcs_Texts.f
 refine Ev.bind (numbers_run hf) ?_
 rw [show numsAll [a, b] [] = [na a, nb a b] from rfl]
 exact Ev.congr (f := fun k => (lcs_Match.f k (na a) (nb a b)).bind fun t => some t) (fun k => by rw [if_pos (by simp), if_pos (by simp)]; rfl) (Ev.bind (match_runs _ _ (by rw [na_length]; omega) (by rw [nb_length]; omega)) (Ev.now _))
def Hs (a b : List ByteArray) : List S40 := O (held (na a) (nb a b) 0) b.length
theorem Hs_length (a b : List ByteArray) : (Hs a b).length ≤ a.length + 1 := by
 unfold Hs
 refine Nat.le_trans (O_length _ _) ?_
 rw [held_length, na_length]; exact Nat.le_refl _
theorem htexts_runs {a b : List ByteArray} (ha : a.length ≤ 1000) (hb : b.length ≤ 1000) (hf : Few [a, b]) : Ev (fun k => hunk_Texts.f k a b) (Hs a b) := by
 unfold hunk_Texts.f
 exact Ev.bind (ltexts_runs ha hb hf) (Ev.bind (of_runs _ _ (by rw [held_length, na_length]; omega) (by omega)) (Ev.now _))
/-! whether hunks may be -/
def W64 (x : Int) : Prop := -9223372036854775808 ≤ x ∧ x ≤ 9223372036854775807
def WfH (h : S40) : Prop := W64 h.f0 ∧ W64 h.f1 ∧ W64 h.f2 ∧ W64 h.f3
def okh (n m : Int) (i : Nat) (a b : Int) (h : S40) : Prop := a ≤ h.f0 ∧ b ≤ h.f2 ∧ h.f0 - a = h.f2 - b ∧ (0 < i → h.f0 ≠ a) ∧ 0 ≤ h.f1 ∧ 0 ≤ h.f3 ∧ (h.f1 ≠ 0 ∨ h.f3 ≠ 0) ∧ h.f0 ≤ n ∧ h.f2 ≤ m ∧ h.f1 ≤ n - h.f0 ∧ h.f3 ≤ m - h.f2
instance (n m : Int) (i : Nat) (a b : Int) (h : S40) : Decidable (okh n m i a b h) := by unfold okh; infer_instance
def may (n m : Int) : List S40 → Nat → Int → Int → Bool
 | [], _, a, b => decide (n - a = m - b ∧ a ≤ n)
 | h :: l, i, a, b => if okh n m i a b h then may n m l (i + 1) (h.f0 + h.f1) (h.f2 + h.f3) else false
def chk (n m : Int) (l : List S40) (i : Nat) (a b : Int) : Int := if may n m l i a b = true then 0 else 60
theorem chk_bad {n m : Int} {h : S40} {l : List S40} {i : Nat} {a b : Int} (hb : ¬ okh n m i a b h) : chk n m (h :: l) i a b = 60 := by unfold chk; rw [may, if_neg hb]; rfl
theorem chk_ok {n m : Int} {h : S40} {l : List S40} {i : Nat} {a b : Int} (hb : okh n m i a b h) : chk n m (h :: l) i a b = chk n m l (i + 1) (h.f0 + h.f1) (h.f2 + h.f3) := by unfold chk; rw [may, if_pos hb]
theorem check_loop (n m : Int) (hn : 0 ≤ n) (hn2 : n ≤ 1000000) (hm : 0 ≤ m) (hm2 : m ≤ 1000000) (L : List S40) (hL : L.length ≤ 1000000) (hw : ∀ h ∈ L, WfH h) : ∀ (l : List S40) (i : Nat) (a b : Int), L.drop i = l → i ≤ L.length → 0 ≤ a → a ≤ n → 0 ≤ b → b ≤ m →
  Ev (fun k => hunk_Check.l0 k n m a b L (L.length : Int) (i : Int)) (chk n m l i a b)
 | [], i, a, b, h, hi, a0, a1, b0, b1 => by
  have : L.length ≤ i := by have := congrArg List.length h; rw [List.length_drop, List.length_nil] at this; omega
  have e1 : wrap64 (n - a) = n - a := w64 (by omega) (by omega)
  have e2 : wrap64 (m - b) = m - b := w64 (by omega) (by omega)
  refine Ev.step (f := fun _ => some (chk n m [] i a b)) (fun k => ?_) (Ev.now _)
  simp only [hunk_Check.l0]
  rw [if_neg (by omega), e1, e2]
  unfold chk
  rw [may]
  by_cases c : n - a = m - b
  ·rw [if_pos c, if_neg (by omega), if_pos (decide_eq_true ⟨c, a1⟩)]
  ·rw [if_neg c, if_neg (by simp [c])]
 | y :: l, i, a, b, h, hi, a0, a1, b0, b1 => by
  obtain ⟨g1, g2, g3⟩ := at40 h
  obtain ⟨w0, w1, w2, w3⟩ := hw y (by rw [← List.take_append_drop i L, h]; simp)
  unfold W64 at w0 w1 w2 w3
  have st : ∀ {r : Int} {x : Bool}, (∀ k, hunk_Check.l0 (k + 1) n m a b L (L.length : Int) (i : Int) = hunk_Check.j1 k n m L (L.length : Int) (i : Int) x y.f0 y.f1 y.f2 y.f3) → Ev (fun k => hunk_Check.j1 k n m L (L.length : Int) (i : Int) x y.f0 y.f1 y.f2 y.f3) r → Ev (fun k => hunk_Check.l0 k n m a b L (L.length : Int) (i : Int)) r := fun e h => Ev.step e h
  have bad1 : Ev (fun k => hunk_Check.j1 k n m L (L.length : Int) (i : Int) true y.f0 y.f1 y.f2 y.f3) 60 := Ev.step (f := fun _ => some 60) (fun k => by simp only [hunk_Check.j1]; rw [if_pos trivial]) (Ev.now _)
  by_cases c1 : y.f0 < a
  ·rw [chk_bad (fun h => by have := h.1; omega)]
   exact st (fun k => by simp only [hunk_Check.l0]; rw [if_pos (by omega), if_pos (by omega), if_pos (by omega), g2, if_pos c1, decide_eq_true c1]) bad1
  by_cases c2 : y.f2 < b
  ·rw [chk_bad (fun h => by have := h.2.1; omega)]
   exact st (fun k => by simp only [hunk_Check.l0]; rw [if_pos (by omega), if_pos (by omega), if_pos (by omega), g2, if_neg c1, if_pos c2, decide_eq_true c2]) bad1
  have e1 : wrap64 (y.f0 - a) = y.f0 - a := w64 (by omega) (by omega)
  have e2 : wrap64 (y.f2 - b) = y.f2 - b := w64 (by omega) (by omega)
  by_cases c3 : y.f0 - a = y.f2 - b
  case neg =>
   rw [chk_bad (fun h => c3 h.2.2.1)]
   exact st (x := true) (fun k => by simp only [hunk_Check.l0]; rw [if_pos (by omega), if_pos (by omega), if_pos (by omega), g2, if_neg c1, if_neg c2, e1, e2, if_neg c3, bne_iff_ne.2 c3]) bad1
  by_cases c4 : 0 < i ∧ y.f0 = a
  ·rw [chk_bad (fun h => h.2.2.2.1 c4.1 c4.2)]
   refine st (x := true) (fun k => ?_) bad1
   simp only [hunk_Check.l0]
   rw [if_pos (by omega), if_pos (by omega), if_pos (by omega), g2, if_neg c1, if_neg c2, e1, e2, if_pos c3, if_pos (by omega), show (y.f0 - a == 0) = true by simp; omega]
  have first : ∀ k, hunk_Check.l0 (k + 1) n m a b L (L.length : Int) (i : Int) = hunk_Check.j1 k n m L (L.length : Int) (i : Int) false y.f0 y.f1 y.f2 y.f3 := fun k => by
   simp only [hunk_Check.l0]
   rw [if_pos (by omega), if_pos (by omega), if_pos (by omega), g2, if_neg c1, if_neg c2, e1, e2, if_pos c3]
   by_cases c : (i : Int) > 0
   ·rw [if_pos c, show (y.f0 - a == 0) = false by simp; omega]
   ·rw [if_neg c]
  refine st first ?_
  have bad2 : Ev (fun k => hunk_Check.j2 k n m L (L.length : Int) (i : Int) true y.f0 y.f1 y.f2 y.f3) 60 := Ev.step (f := fun _ => some 60) (fun k => by simp only [hunk_Check.j2]; rw [if_pos trivial]) (Ev.now _)
  by_cases c5 : y.f1 < 0
  ·rw [chk_bad (fun h => by have := h.2.2.2.2.1; omega)]
   exact Ev.step (fun k => by simp only [hunk_Check.j1]; rw [if_neg (by decide), if_pos c5, decide_eq_true c5]) bad2
  by_cases c6 : y.f3 < 0
  ·rw [chk_bad (fun h => by have := h.2.2.2.2.2.1; omega)]
   exact Ev.step (fun k => by simp only [hunk_Check.j1]; rw [if_neg (by decide), if_neg c5, if_pos c6, decide_eq_true c6]) bad2
  by_cases c7 : y.f1 = 0 ∧ y.f3 = 0
  ·rw [chk_bad (fun h => by have := h.2.2.2.2.2.2.1; omega)]
   exact Ev.step (fun k => by simp only [hunk_Check.j1]; rw [if_neg (by decide), if_neg c5, if_neg c6, if_pos c7.1, show (y.f3 == 0) = true by simp [c7.2]]) bad2
  refine Ev.step (f := fun k => hunk_Check.j2 k n m L (L.length : Int) (i : Int) false y.f0 y.f1 y.f2 y.f3) (fun k => ?_) ?_
  ·simp only [hunk_Check.j1]
   rw [if_neg (by decide), if_neg c5, if_neg c6]
   by_cases c : y.f1 = 0
   ·rw [if_pos c, show (y.f3 == 0) = false by simp; omega]
   ·rw [if_neg c]
  by_cases c8 : y.f0 > n
  ·rw [chk_bad (fun h => by have := h.2.2.2.2.2.2.2.1; omega)]
   exact Ev.step (f := fun _ => some 60) (fun k => by simp only [hunk_Check.j2]; rw [if_neg (by decide), if_pos c8]) (Ev.now _)
  by_cases c9 : y.f2 > m
  ·rw [chk_bad (fun h => by have := h.2.2.2.2.2.2.2.2.1; omega)]
   exact Ev.step (f := fun _ => some 60) (fun k => by simp only [hunk_Check.j2]; rw [if_neg (by decide), if_neg c8, if_pos c9]) (Ev.now _)
  have e3 : wrap64 (n - y.f0) = n - y.f0 := w64 (by omega) (by omega)
  have e4 : wrap64 (m - y.f2) = m - y.f2 := w64 (by omega) (by omega)
  by_cases c10 : y.f1 > n - y.f0
  ·rw [chk_bad (fun h => by have := h.2.2.2.2.2.2.2.2.2.1; omega)]
   exact Ev.step (f := fun _ => some 60) (fun k => by simp only [hunk_Check.j2]; rw [if_neg (by decide), if_neg c8, if_neg c9, e3, if_pos c10]) (Ev.now _)
  by_cases c11 : y.f3 > m - y.f2
  ·rw [chk_bad (fun h => by have := h.2.2.2.2.2.2.2.2.2.2; omega)]
   exact Ev.step (f := fun _ => some 60) (fun k => by simp only [hunk_Check.j2]; rw [if_neg (by decide), if_neg c8, if_neg c9, e3, if_neg c10, e4, if_pos c11]) (Ev.now _)
  rw [chk_ok ⟨by omega, by omega, c3, fun h1 h2 => c4 ⟨h1, h2⟩, by omega, by omega, by omega, by omega, by omega, by omega, by omega⟩]
  have e5 : wrap64 (y.f0 + y.f1) = y.f0 + y.f1 := w64 (by omega) (by omega)
  have e6 : wrap64 (y.f2 + y.f3) = y.f2 + y.f3 := w64 (by omega) (by omega)
  exact Ev.step (fun k => by simp only [hunk_Check.j2]; rw [if_neg (by decide), if_neg c8, if_neg c9, e3, if_neg c10, e4, if_neg c11, e5, e6, wi i (by omega)]) (check_loop n m hn hn2 hm hm2 L hL hw l (i + 1) (y.f0 + y.f1) (y.f2 + y.f3) g3 (by omega) (by omega) (by omega) (by omega) (by omega))
/-! whether hunks may be (the reference), and a row with hunks -/
theorem check_runs {n m : Nat} (hn : n ≤ 1000000) (hm : m ≤ 1000000) {L : List S40} (hL : L.length ≤ 1000000) (hw : ∀ h ∈ L, WfH h) : Ev (fun k => hunk_Check.f k L (n : Int) (m : Int)) (chk n m L 0 0 0) :=
 check_loop n m (by omega) (by omega) (by omega) (by omega) L hL hw L 0 0 0 rfl (Nat.zero_le _) (by omega) (by omega) (by omega) (by omega)
/-! the other way, and what they cost -/
theorem short_runs (x : List ByteArray) : Ev (fun _ => l06_short.f x) (decide (x.length ≤ 100)) := by
 refine Ev.congr (f := fun _ => some (decide (x.length ≤ 100))) (fun k => ?_) (Ev.now _)
 unfold l06_short.f
 congr 1; exact decide_eq_decide.2 (by omega)
/-! numbers say which texts are the same -/
theorem grow_pre (l : List ByteArray) (s : ByteArray) : l <+: grow l s := by
 unfold grow
 split
 ·exact List.prefix_refl _
 ·exact List.prefix_append _ _
theorem seenBy_pre : ∀ (r l : List ByteArray), l <+: seenBy r l
 | [], l => List.prefix_refl _
 | s :: r, l => (grow_pre l s).trans (seenBy_pre r (grow l s))
theorem ix_pre {l F : List ByteArray} {s : ByteArray} (h : l <+: F) (hi : lcs_Numbers.ix l s < l.length) : lcs_Numbers.ix F s = lcs_Numbers.ix l s := by
 obtain ⟨r, rfl⟩ := h
 unfold lcs_Numbers.ix at *
 rw [List.findIdx_append, if_pos hi]
theorem ix_grow (l : List ByteArray) (s : ByteArray) : lcs_Numbers.ix (grow l s) s = lcs_Numbers.ix l s ∧ lcs_Numbers.ix l s < (grow l s).length := by
 unfold grow
 by_cases h : lcs_Numbers.has l s = true
 ·rw [if_pos h]; exact ⟨rfl, (has_iff l s).1 h⟩
 ·rw [if_neg h, ix_none h]
  have := ix_none h
  unfold lcs_Numbers.ix at *
  rw [List.findIdx_append, if_neg (by omega)]
  simp
theorem nums_map (F : List ByteArray) : ∀ (r l : List ByteArray), seenBy r l <+: F → nums r l = r.map (fun s => (lcs_Numbers.ix F s : Int)) ∧ ∀ s ∈ r, lcs_Numbers.ix F s < F.length
 | [], l, _ => ⟨rfl, fun s h => by cases h⟩
 | s :: r, l, h => by
  obtain ⟨h1, h2⟩ := nums_map F r (grow l s) h
  obtain ⟨g1, g2⟩ := ix_grow l s
  have hp : grow l s <+: F := (seenBy_pre r (grow l s)).trans h
  have e : lcs_Numbers.ix F s = lcs_Numbers.ix l s := by rw [ix_pre hp (by rw [g1]; exact g2), g1]
  refine ⟨by rw [nums, List.map_cons, h1, e], fun t ht => ?_⟩
  rcases List.mem_cons.1 ht with rfl | ht
  ·rw [e]; exact Nat.lt_of_lt_of_le g2 hp.length_le
  ·exact h2 t ht
theorem ix_inj {F : List ByteArray} {s t : ByteArray} (h : lcs_Numbers.ix F s = lcs_Numbers.ix F t) (hs : lcs_Numbers.ix F s < F.length) : s = t := by
 have h1 := List.findIdx_getElem (p := fun t : ByteArray => t.data.toList == s.data.toList) (xs := F) (w := hs)
 have h2 := List.findIdx_getElem (p := fun u : ByteArray => u.data.toList == t.data.toList) (xs := F) (w := by rw [h] at hs; exact hs)
 have e : F[F.findIdx (fun t : ByteArray => t.data.toList == s.data.toList)]'hs = F[F.findIdx (fun u : ByteArray => u.data.toList == t.data.toList)]'(by rw [h] at hs; exact hs) := by congr 1
 simp only [beq_iff_eq] at h1 h2
 rw [e, h2] at h1
 have := Array.toList_inj.1 h1
 cases s; cases t; simp_all
def num (a b : List ByteArray) (s : ByteArray) : Int := (lcs_Numbers.ix (seenBy b (seenBy a [])) s : Int)
theorem na_map (a b : List ByteArray) : na a = a.map (num a b) := (nums_map _ a [] (seenBy_pre b _)).1
theorem nb_map (a b : List ByteArray) : nb a b = b.map (num a b) := (nums_map _ b _ (List.prefix_refl _)).1
theorem num_inj (a b : List ByteArray) : ∀ s ∈ a, ∀ t, num a b s = num a b t → s = t := fun s hs t h => by
 refine ix_inj (F := seenBy b (seenBy a [])) ?_ ((nums_map _ a [] (seenBy_pre b _)).2 s hs)
 unfold num at h
 omega
/-! what hunks leave is the same -/
def Eqs (A B : List ByteArray) : List S40 → Int → Int → Prop
 | [], p, q => A.drop p.toNat = B.drop q.toNat
 | h :: l, p, q => (A.take h.f0.toNat).drop p.toNat = (B.take h.f2.toNat).drop q.toNat ∧ Eqs A B l (h.f0 + h.f1) (h.f2 + h.f3)
theorem may_wf {n m : Int} (hn : n ≤ 1000000) (hm : m ≤ 1000000) : ∀ {l : List S40} {i : Nat} {a b : Int}, 0 ≤ a → 0 ≤ b → may n m l i a b = true → ∀ h ∈ l, WfH h
 | [], _, _, _, _, _, _ => fun h hm => by cases hm
 | y :: l, i, a, b, a0, b0, h => by
  rw [may] at h
  by_cases c : okh n m i a b y
  ·rw [if_pos c] at h
   have c' := c
   obtain ⟨c0, c1, c2, c3, c4, c5, c6, c7, c8, c9, c10⟩ := c'
   intro x hx
   rcases List.mem_cons.1 hx with rfl | hx
   ·unfold WfH W64; omega
   ·exact may_wf hn hm (l := l) (by omega) (by omega) h x hx
  ·rw [if_neg c] at h; cases h
theorem cut_snoc (A : List ByteArray) {p a : Nat} (h1 : p ≤ a) (h2 : a < A.length) : (A.take (a + 1)).drop p = (A.take a).drop p ++ [A[a]] := by
 rw [List.take_succ_eq_append_getElem h2, List.drop_append, List.length_take, show p - min a A.length = 0 by omega, List.drop_zero]
theorem drop_map_cons {A : List ByteArray} {f : ByteArray → Int} {i : Nat} {x : Int} {xs : List Int} (h : x :: xs = (A.drop i).map f) : ∃ hi : i < A.length, x = f A[i] ∧ xs = (A.drop (i + 1)).map f := by
 have hi : i < A.length := by
  rcases Nat.lt_or_ge i A.length with g | g
  ·exact g
  ·rw [List.drop_eq_nil_of_le g] at h; cases h
 rw [List.drop_eq_getElem_cons hi, List.map_cons] at h
 injection h with e1 e2
 exact ⟨hi, e1, e2⟩
theorem hk_ok (A B : List ByteArray) (f : ByteArray → Int) (inj : ∀ s ∈ A, ∀ t, f s = f t → s = t) : ∀ (xs m : List Int) (i : Nat) (a b p q last : Int) (cnt : Nat), xs = (A.drop i).map f → i ≤ A.length → Rises (B.map f) xs m last → b = last + 1 →
  0 ≤ p → p ≤ a → a ≤ i → 0 ≤ q → q ≤ b → b ≤ B.length → a - p = b - q → (0 < cnt → p < a) → (A.take a.toNat).drop p.toNat = (B.take b.toNat).drop q.toNat →
  may A.length B.length (hk B.length m i a b) cnt p q = true ∧ Eqs A B (hk B.length m i a b) p q
 | [], [], i, a, b, p, q, last, cnt, hx, hi, hr, hb, p0, pa, ai, q0, qb, bn, e, hc, hcut => by
  have hl : i = A.length := by
   have := congrArg List.length hx
   rw [List.length_map, List.length_drop, List.length_nil] at this; omega
  rw [hk]
  by_cases c : (i : Int) > a ∨ (B.length : Int) > b
  ·rw [if_pos c]
   refine ⟨?_, hcut, ?_⟩
   ·rw [may, if_pos (by unfold okh; dsimp only; omega), may]
    exact decide_eq_true (by dsimp only; omega)
   ·show A.drop (a + (i - a)).toNat = B.drop (b + (B.length - b)).toNat
    rw [List.drop_eq_nil_of_le (by omega), List.drop_eq_nil_of_le (by omega)]
  ·rw [if_neg c]
   refine ⟨by rw [may]; exact decide_eq_true (by omega), ?_⟩
   show A.drop p.toNat = B.drop q.toNat
   rw [List.take_of_length_le (by omega), List.take_of_length_le (by omega)] at hcut
   exact hcut
 | [], _ :: _, _, _, _, _, _, _, _, _, _, hr, _, _, _, _, _, _, _, _, _, _ => hr.elim
 | _ :: _, [], _, _, _, _, _, _, _, _, _, hr, _, _, _, _, _, _, _, _, _, _ => hr.elim
 | x :: xs, y :: l, i, a, b, p, q, last, cnt, hx, hi, hr, hb, p0, pa, ai, q0, qb, bn, e, hc, hcut => by
  obtain ⟨hi', hx1, hx2⟩ := drop_map_cons hx
  rw [Rises] at hr
  rw [hk]
  by_cases hy : y < 0
  ·rw [if_pos hy] at hr
   rw [if_pos hy]
   exact hk_ok A B f inj xs l (i + 1) a b p q last cnt hx2 (by omega) hr hb p0 pa (by omega) q0 qb bn e hc hcut
  ·rw [if_neg hy] at hr
   rw [if_neg hy]
   obtain ⟨⟨r1, r2, r3⟩, r4⟩ := hr
   rw [List.length_map] at r2
   have hyB : y.toNat < B.length := by omega
   have hAB : A[i] = B[y.toNat] := by
    refine inj _ (List.getElem_mem hi') _ ?_
    rw [← hx1, ← r3, List.getD_eq_getElem?_getD, List.getElem?_map, List.getElem?_eq_getElem hyB]
    rfl
   have hy1 : (y + 1).toNat = y.toNat + 1 := by omega
   by_cases c : (i : Int) > a ∨ y > b
   ·rw [if_pos c]
    have one : (A.take ((i : Int) + 1).toNat).drop (i : Int).toNat = (B.take (y + 1).toNat).drop y.toNat := by
     rw [show ((i : Int) + 1).toNat = i + 1 by omega, show (i : Int).toNat = i by omega, hy1, cut_snoc A (Nat.le_refl _) hi', cut_snoc B (Nat.le_refl _) hyB, hAB]
     rw [List.drop_eq_nil_of_le (by rw [List.length_take]; omega), List.drop_eq_nil_of_le (by rw [List.length_take]; omega)]
    obtain ⟨g1, g2⟩ := hk_ok A B f inj xs l (i + 1) ((i : Int) + 1) (y + 1) i y y (cnt + 1) hx2 (by omega) r4 rfl (by omega) (by omega) (by omega) (by omega) (by omega) (by omega) (by omega) (by omega) one
    have e1 : a + ((i : Int) - a) = i := by omega
    have e2 : b + (y - b) = y := by omega
    refine ⟨?_, hcut, ?_⟩
    ·rw [List.singleton_append, may, if_pos (by unfold okh; dsimp only; omega)]
     dsimp only
     rw [e1, e2]; exact g1
    ·dsimp only
     rw [e1, e2]; exact g2
   ·rw [if_neg c, List.nil_append]
    obtain rfl : a = i := by omega
    obtain rfl : b = y := by omega
    refine hk_ok A B f inj xs l (i + 1) ((i : Int) + 1) (b + 1) p q b cnt hx2 (by omega) r4 rfl p0 (by omega) (by omega) q0 (by omega) (by omega) (by omega) (by omega) ?_
    rw [show ((i : Int) + 1).toNat = i + 1 by omega, hy1, cut_snoc A (by omega) hi', cut_snoc B (by omega) hyB, hAB]
    rw [show (i : Int).toNat = i by omega] at hcut
    rw [hcut]
theorem held_ge : ∀ (xs ys : List Int) (k : Nat), ∀ x ∈ held xs ys k, -1 ≤ x := by
 intro xs ys k
 induction xs, ys, k using held.induct with
 | case1 ys k => intro x h; rw [held] at h; cases h
 | case2 x xs k => intro y h; rw [held_nil_r] at h; have := List.eq_of_mem_replicate h; omega
 | case3 xs x ys k ih =>
  intro y h
  rw [held_same] at h
  rcases List.mem_cons.1 h with rfl | h
  ·omega
  ·exact ih y h
 | case4 x xs y ys k h hg ih =>
  intro z hz
  rw [held_skip h _ _ _ hg] at hz
  rcases List.mem_cons.1 hz with rfl | hz
  ·omega
  ·exact ih z hz
 | case5 x xs y ys k h hg ih => rw [held_turn h _ _ _ hg]; exact ih
theorem mt_of (b : List Int) : ∀ (xs m : List Int) (last : Int), (∀ x ∈ m, -1 ≤ x) → -1 ≤ last → Rises b xs m last → mt b.length m last = true
 | [], [], last, _, _, _ => by rw [mt]; exact decide_eq_true (by omega)
 | [], _ :: _, _, _, _, hr => hr.elim
 | _ :: _, [], _, _, _, hr => hr.elim
 | x :: xs, y :: l, last, hm, hl, hr => by
  have h1 := hm y (by simp)
  have h2 : ∀ x ∈ l, -1 ≤ x := fun x h => hm x (by simp [h])
  rw [Rises] at hr
  rw [mt, if_neg (by omega)]
  by_cases hy : y < 0
  ·rw [if_pos hy] at hr
   rw [if_neg (by omega), if_neg (by omega), show mx last y = last by unfold mx; split <;> omega]
   exact mt_of b xs l last h2 hl hr
  ·rw [if_neg hy] at hr
   obtain ⟨⟨r1, r2, r3⟩, r4⟩ := hr
   rw [if_neg (by omega), if_pos (by omega), if_neg (by omega), show mx last y = y by unfold mx; split <;> omega]
   exact mt_of b xs l y h2 (by omega) r4
theorem Hs_eq (a b : List ByteArray) : Hs a b = hk b.length (held (na a) (nb a b) 0) 0 0 0 := by
 unfold Hs O
 have := mt_of (nb a b) (na a) (held (na a) (nb a b) 0) (-1) (held_ge _ _ _) (by omega) (held_rises (nb a b) (na a) (nb a b) 0 (-1) rfl (by omega))
 rw [nb_length] at this
 rw [if_pos this]
theorem Hs_ok (a b : List ByteArray) : may a.length b.length (Hs a b) 0 0 0 = true ∧ Eqs a b (Hs a b) 0 0 := by
 rw [Hs_eq]
 refine hk_ok a b (num a b) (num_inj a b) (na a) (held (na a) (nb a b) 0) 0 0 0 0 0 (-1) 0 (by rw [List.drop_zero]; exact na_map a b) (Nat.zero_le _) ?_ (by omega) (by omega) (by omega) (by omega) (by omega) (by omega) (by omega) (by omega) (by omega) rfl
 rw [← nb_map]
 exact held_rises (nb a b) (na a) (nb a b) 0 (-1) rfl (by omega)
theorem toList_inj {x y : ByteArray} (h : x.toList = y.toList) : x = y := by
 simp only [ByteArray.toList_eq] at h
 have := Array.toList_inj.1 h
 cases x; cases y; simp_all
theorem same1_any (x y : List ByteArray) (hx : x.length ≤ 1000000) (he : x.length = y.length) : ∀ (d i : Nat), x.length - i = d → i ≤ x.length → Ev (fun k => r01_Same.l0 k x y (i : Int)) (decide (x.drop i = y.drop i)) := by
 intro d
 induction d with
 | zero =>
  intro i hd hi
  rw [List.drop_eq_nil_of_le (by omega), List.drop_eq_nil_of_le (by omega)]
  exact Ev.step (f := fun _ => some true) (fun k => by simp only [r01_Same.l0]; rw [if_neg (by omega)]) (Ev.now _)
 | succ d ih =>
  intro i hd hi
  rw [drop_getS (show i < x.length by omega), drop_getS (show i < y.length by omega)]
  have ex : rdOf ByteArray.empty x (i : Int) = x.getD i ByteArray.empty := rfl
  have ey : rdOf ByteArray.empty y (i : Int) = y.getD i ByteArray.empty := rfl
  by_cases h : x.getD i ByteArray.empty = y.getD i ByteArray.empty
  ·have e : decide (x.getD i ByteArray.empty :: x.drop (i + 1) = y.getD i ByteArray.empty :: y.drop (i + 1)) = decide (x.drop (i + 1) = y.drop (i + 1)) := decide_eq_decide.2 (by rw [h]; simp)
   rw [e]
   exact Ev.step (fun k => by simp only [r01_Same.l0]; rw [if_pos (by omega), if_pos (by omega), if_pos (by omega), ex, ey, if_pos (by rw [h]), wi i (by omega)]) (ih (i + 1) (by omega) (by omega))
  ·rw [decide_eq_false (fun g => h (List.cons.inj g).1)]
   exact Ev.step (f := fun _ => some false) (fun k => by simp only [r01_Same.l0]; rw [if_pos (by omega), if_pos (by omega), if_pos (by omega), ex, ey, if_neg (fun g => h (toList_inj g))]) (Ev.now _)
theorem same1_is (x y : List ByteArray) (hx : x.length ≤ 1000000) : Ev (fun k => r01_Same.f k x y) (decide (x = y)) := by
 by_cases h : x.length = y.length
 ·have := same1_any x y hx h x.length 0 rfl (Nat.zero_le _)
  rw [List.drop_zero, List.drop_zero] at this
  exact Ev.congr (fun k => if_pos (by omega)) this
 ·rw [decide_eq_false (fun g => h (by rw [g]))]
  exact Ev.congr (f := fun _ => some false) (fun k => if_neg (by omega)) (Ev.now _)
theorem hk_self : ∀ (xs : List Int) (k : Nat), hk ((k + xs.length : Nat) : Int) (held xs xs k) (k : Int) (k : Int) (k : Int) = []
 | [], k => by
  rw [held, hk, if_neg (by rw [List.length_nil]; omega)]
 | x :: xs, k => by
  rw [held_same, hk, if_neg (by omega), if_neg (by omega), List.nil_append]
  have := hk_self xs (k + 1)
  rw [show k + 1 + xs.length = k + (x :: xs).length by rw [List.length_cons]; omega] at this
  exact this
theorem Hs_nil (a b : List ByteArray) : Hs a b = [] ↔ a = b := by
 constructor
 ·intro h
  have := (Hs_ok a b).2
  rw [h] at this
  exact this
 ·rintro rfl
  rw [Hs_eq, nb_map, na_map a a]
  have := hk_self (a.map (num a a)) 0
  rw [List.length_map, Nat.zero_add] at this
  exact this
theorem stretch (A B : List ByteArray) (L : List S40) (hA : A.length ≤ 1000000) (hB : B.length ≤ 1000000) (j : Int) (t u : Nat) (ht : t ≤ A.length) (hu : u ≤ B.length) {r : Bool} (hr : Ev (fun k => l06_HunkApart.l1 k A B L (t : Int) (u : Int) j (t : Int)) r) :
  ∀ (d p q : Nat), t - p = d → p ≤ t → q ≤ u → t - p = u - q → (A.take t).drop p = (B.take u).drop q → Ev (fun k => l06_HunkApart.l1 k A B L (p : Int) (q : Int) j (t : Int)) r := by
 intro d
 induction d with
 | zero =>
  intro p q hd hp hq he hc
  obtain rfl : p = t := by omega
  obtain rfl : q = u := by omega
  exact hr
 | succ d ih =>
  intro p q hd hp hq he hc
  have g1 : p < (A.take t).length := by rw [List.length_take]; omega
  have g2 : q < (B.take u).length := by rw [List.length_take]; omega
  rw [drop_getS g1, drop_getS g2] at hc
  injection hc with c1 c2
  have e1 : (A.take t).getD p ByteArray.empty = A.getD p ByteArray.empty := by
   rw [List.getD_eq_getElem?_getD, List.getD_eq_getElem?_getD, List.getElem?_take, if_pos (by omega)]
  have e2 : (B.take u).getD q ByteArray.empty = B.getD q ByteArray.empty := by
   rw [List.getD_eq_getElem?_getD, List.getD_eq_getElem?_getD, List.getElem?_take, if_pos (by omega)]
  rw [e1, e2] at c1
  have ex : rdOf ByteArray.empty A (p : Int) = A.getD p ByteArray.empty := rfl
  have ey : rdOf ByteArray.empty B (q : Int) = B.getD q ByteArray.empty := rfl
  exact Ev.step (fun k => by simp only [l06_HunkApart.l1]; rw [if_pos (by omega), if_pos (by omega), if_pos (by omega), if_pos (by omega), if_pos (by omega), ex, ey, if_pos (by rw [c1]), wi p (by omega), wi q (by omega)]) (ih (p + 1) (q + 1) (by omega) (by omega) (by omega) (by omega) c2)
theorem apart_loop (A B : List ByteArray) (hA : A.length ≤ 1000) (hB : B.length ≤ 1000) (L : List S40) (hL : L.length ≤ 1000000) {r : Bool} (hr : ∀ p q : Int, Ev (fun k => l06_HunkApart.l0 k A B L p q ((L.length + 1 : Nat) : Int)) r) : ∀ (l : List S40) (i : Nat) (p q : Int), L.drop i = l → i ≤ L.length → 0 ≤ p → p ≤ A.length → 0 ≤ q → q ≤ B.length → may A.length B.length l i p q = true → Eqs A B l p q →
  Ev (fun k => l06_HunkApart.l0 k A B L p q (i : Int)) r
 | [], i, p, q, h, hi, p0, p1, q0, q1, hm, hq => by
  have hl : i = L.length := by have := congrArg List.length h; rw [List.length_drop, List.length_nil] at this; omega
  rw [may] at hm
  have hm := of_decide_eq_true hm
  have e1 : wrap64 ((A.length : Int) - p) = A.length - p := w64 (by omega) (by omega)
  have e2 : wrap64 ((B.length : Int) - q) = B.length - q := w64 (by omega) (by omega)
  refine Ev.step (fun k => by simp only [l06_HunkApart.l0]; rw [if_pos (by omega), if_neg (by omega)]) ?_
  refine Ev.step (f := fun k => l06_HunkApart.j3 k A B L p q (i : Int) (A.length : Int) false) (fun k => by
   simp only [l06_HunkApart.j2]
   rw [e1, e2, if_pos hm.1, if_neg (by omega)]
   by_cases c : (i : Int) > 0
   ·rw [if_pos c, if_neg (by omega)]
   ·rw [if_neg c]) ?_
  refine Ev.step (f := fun k => l06_HunkApart.l1 k A B L p q (i : Int) (A.length : Int)) (fun k => by simp only [l06_HunkApart.j3]; rw [if_neg (by decide)]) ?_
  obtain ⟨p', rfl⟩ := Int.eq_ofNat_of_zero_le p0
  obtain ⟨q', rfl⟩ := Int.eq_ofNat_of_zero_le q0
  refine stretch A B L (by omega) (by omega) (i : Int) A.length B.length (Nat.le_refl _) (Nat.le_refl _) ?_ _ p' q' rfl (by omega) (by omega) (by omega) (by rw [List.take_length, List.take_length]; exact hq)
  exact Ev.step (fun k => by simp only [l06_HunkApart.l1]; rw [if_neg (by omega), if_neg (by omega), wi i (by omega), hl]) (hr _ _)
 | y :: l, i, p, q, h, hi, p0, p1, q0, q1, hm, hq => by
  obtain ⟨g1, g2, g3⟩ := at40 h
  rw [may] at hm
  by_cases c : okh A.length B.length i p q y
  case neg => rw [if_neg c] at hm; cases hm
  rw [if_pos c] at hm
  obtain ⟨c0, c1, c2, c3, c4, c5, c6, c7, c8, c9, c10⟩ := c
  have e1 : wrap64 (y.f0 - p) = y.f0 - p := w64 (by omega) (by omega)
  have e2 : wrap64 (y.f2 - q) = y.f2 - q := w64 (by omega) (by omega)
  have ih := apart_loop A B hA hB L hL hr l (i + 1) (y.f0 + y.f1) (y.f2 + y.f3) g3 (by omega) (by omega) (by omega) (by omega) (by omega) hm hq.2
  refine Ev.step (f := fun k => l06_HunkApart.j2 k A B L p q (i : Int) y.f0 y.f2) (fun k => by simp only [l06_HunkApart.l0]; rw [if_pos (by omega), if_pos (by omega), if_pos (by omega), g2]) ?_
  refine Ev.step (f := fun k => l06_HunkApart.j3 k A B L p q (i : Int) y.f0 false) (fun k => by
   simp only [l06_HunkApart.j2]
   rw [e1, e2, if_pos c2, if_neg (by omega)]
   by_cases c : (i : Int) > 0
   ·rw [if_pos c, if_pos (by omega), show (y.f0 == p) = false by simp; exact c3 (by omega)]
   ·rw [if_neg c]) ?_
  refine Ev.step (f := fun k => l06_HunkApart.l1 k A B L p q (i : Int) y.f0) (fun k => by simp only [l06_HunkApart.j3]; rw [if_neg (by decide)]) ?_
  obtain ⟨p', rfl⟩ := Int.eq_ofNat_of_zero_le p0
  obtain ⟨q', rfl⟩ := Int.eq_ofNat_of_zero_le q0
  obtain ⟨t, ht⟩ := Int.eq_ofNat_of_zero_le (show 0 ≤ y.f0 by omega)
  obtain ⟨u, hu⟩ := Int.eq_ofNat_of_zero_le (show 0 ≤ y.f2 by omega)
  have hq1 := hq.1
  rw [ht, hu] at hq1
  rw [ht]
  refine stretch A B L (by omega) (by omega) (i : Int) t u (by omega) (by omega) ?_ _ p' q' rfl (by omega) (by omega) (by omega) hq1
  have e5 : wrap64 (y.f0 + y.f1) = y.f0 + y.f1 := w64 (by omega) (by omega)
  have e6 : wrap64 (y.f2 + y.f3) = y.f2 + y.f3 := w64 (by omega) (by omega)
  rw [ht] at e5 ih
  rw [hu] at e6 ih
  exact Ev.step (fun k => by simp only [l06_HunkApart.l1]; rw [if_neg (by omega), if_pos (by omega), if_pos (by omega), g2, e5, e6, wi i (by omega)]) ih
theorem HunkApart (a b : List ByteArray) (h0 : a.length * 16 ≤ 140737488351232 ∧ a.length ≤ maxLen ∧ ∀ x ∈ a, x.size ≤ 140737488351232)
  (h1 : b.length * 16 ≤ 140737488351232 ∧ b.length ≤ maxLen ∧ ∀ x ∈ b, x.size ≤ 140737488351232) : ∃ k, l06_HunkApart.f k a b = some true := by
 refine Ev.rounds ?_
 unfold l06_HunkApart.f
 refine Ev.bind awake_runs (Ev.congr (fun k => if_pos rfl) (Ev.bind (short_runs a) (Ev.bind (short_runs b) ?_)))
 have yes : Ev (fun k => l06_HunkApart.j0 k a b true) true := Ev.step (f := fun _ => some true) (fun k => by simp only [l06_HunkApart.j0]; rw [if_pos trivial]) (Ev.now _)
 by_cases g0 : a.length ≤ 100
 case neg => exact Ev.congr (fun k => if_neg (by simp [g0])) yes
 refine Ev.congr (fun k => if_pos (decide_eq_true g0)) ?_
 by_cases g1 : b.length ≤ 100
 case neg => rw [decide_eq_false g1]; exact yes
 rw [decide_eq_true g1]
 have hf : Few [a, b] := few2 (by omega) (by omega) h0.2.2 h1.2.2
 have hl := Hs_length a b
 obtain ⟨o1, o2⟩ := Hs_ok a b
 have w1 : ∀ h ∈ Hs a b, WfH h := may_wf (by omega) (by omega) (by omega) (by omega) o1
 refine Ev.step (f := fun k => (hunk_Texts.f k a b).bind fun t => l06_HunkApart.l0 k a b t 0 0 0) (fun k => by simp only [l06_HunkApart.j0]; rw [if_neg (by decide)]) (Ev.bind (htexts_runs (by omega) (by omega) hf) ?_)
 refine apart_loop a b (by omega) (by omega) (Hs a b) (by omega) (fun p q => ?_) (Hs a b) 0 0 0 rfl (Nat.zero_le _) (by omega) (by omega) (by omega) (by omega) o1 o2
 have hc := check_runs (n := a.length) (m := b.length) (by omega) (by omega) (L := Hs a b) (by omega) w1
 unfold chk at hc
 rw [if_pos o1] at hc
 refine Ev.step (f := fun k => (hunk_Check.f k (Hs a b) (a.length : Int) (b.length : Int)).bind fun t => if t = 0 then ((r01_Same.f k a b).bind fun u => some ((((Hs a b).length : Int) == 0) == u)) else none) (fun k => by simp only [l06_HunkApart.l0]; rw [if_neg (by omega)]) (Ev.bind hc (Ev.congr (fun k => if_pos rfl) (Ev.bind (same1_is a b (by omega)) ?_)))
 refine Ev.congr (f := fun _ => some true) (fun k => ?_) (Ev.now _)
 congr 1
 have hn := Hs_nil a b
 by_cases h : a = b
 ·rw [decide_eq_true h, hn.2 h]; rfl
 ·rw [decide_eq_false h]
  have : (Hs a b).length ≠ 0 := fun g => h (hn.1 (List.eq_nil_of_length_eq_zero g))
  simp; intro g; exact this (by rw [g]; rfl)
end Go.Proofs.Ytphghffdaceaoaa.Pure
