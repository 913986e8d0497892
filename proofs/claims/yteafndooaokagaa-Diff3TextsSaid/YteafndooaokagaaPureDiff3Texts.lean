/- Any three rows of texts, chunk by chunk. -/
import Derived.Test.YteafndooaokagaaPDiffx18
import Derived.Test.YteafndooaokagaaOpen
namespace Go.Proofs.Yteafndooaokagaa.Pure
open Go.RowKit Go.Proofs.Yteafndooaokagaa Go.Proofs.Yteafndooaokagaa.PDiff Go.Proofs.YteafndooaokagaaW.PrintWords Go.Proofs.YteafndooaokagaaW.PrintLast Go.Proofs.YteafndooaokagaaW.PrintMore
set_option linter.unusedVariables false
set_option linter.unusedSimpArgs false
/-! ### the longest common rows: mathematics alone -/
def lcs : List Int → List Int → Nat
 | [], _ => 0
 | _ :: _, [] => 0
 | x :: xs, y :: ys => if x = y then lcs xs ys + 1 else max (lcs xs (y :: ys)) (lcs (x :: xs) ys)
termination_by xs ys => xs.length + ys.length
theorem lcs_nil_l (ys : List Int) : lcs [] ys = 0 := by rw [lcs]
theorem lcs_nil_r (xs : List Int) : lcs xs [] = 0 := by cases xs <;> rw [lcs]
theorem lcs_same (x : Int) (xs ys : List Int) : lcs (x :: xs) (x :: ys) = lcs xs ys + 1 := by rw [lcs, if_pos rfl]
theorem lcs_other {x y : Int} (h : x ≠ y) (xs ys : List Int) : lcs (x :: xs) (y :: ys) = max (lcs xs (y :: ys)) (lcs (x :: xs) ys) := by rw [lcs, if_neg h]
theorem lcs_le : ∀ xs ys : List Int, lcs xs ys ≤ xs.length ∧ lcs xs ys ≤ ys.length := by
 intro xs ys
 induction xs, ys using lcs.induct with
 | case1 ys => rw [lcs_nil_l]; exact ⟨Nat.zero_le _, Nat.zero_le _⟩
 | case2 x xs => rw [lcs_nil_r]; exact ⟨Nat.zero_le _, Nat.zero_le _⟩
 | case3 x xs ys ih => rw [lcs_same]; simp only [List.length_cons]; omega
 | case4 x xs y ys h ih1 ih2 => rw [lcs_other h]; simp only [List.length_cons] at *; omega
/-- what of a row is held to be one of the other's things, from place k of that on -/
def held : List Int → List Int → Nat → List Int
 | [], _, _ => []
 | x :: xs, [], _ => List.replicate (xs.length + 1) (-1)
 | x :: xs, y :: ys, k => if x = y then (k : Int) :: held xs ys (k + 1) else if lcs xs (y :: ys) ≥ lcs (x :: xs) ys then (-1) :: held xs (y :: ys) k else held (x :: xs) ys (k + 1)
termination_by xs ys _ => xs.length + ys.length
theorem held_nil_r (xs : List Int) (k : Nat) : held xs [] k = List.replicate xs.length (-1) := by cases xs <;> rw [held] <;> simp
theorem held_same (x : Int) (xs ys : List Int) (k : Nat) : held (x :: xs) (x :: ys) k = (k : Int) :: held xs ys (k + 1) := by rw [held, if_pos rfl]
theorem held_skip {x y : Int} (h : x ≠ y) (xs ys : List Int) (k : Nat) (hg : lcs xs (y :: ys) ≥ lcs (x :: xs) ys) : held (x :: xs) (y :: ys) k = (-1) :: held xs (y :: ys) k := by rw [held, if_neg h, if_pos hg]
theorem held_turn {x y : Int} (h : x ≠ y) (xs ys : List Int) (k : Nat) (hg : ¬ lcs xs (y :: ys) ≥ lcs (x :: xs) ys) : held (x :: xs) (y :: ys) k = held (x :: xs) ys (k + 1) := by rw [held, if_neg h, if_neg hg]
theorem held_length : ∀ (xs ys : List Int) (k : Nat), (held xs ys k).length = xs.length := by
 intro xs ys k
 induction xs, ys, k using held.induct with
 | case1 ys k => rw [held]
 | case2 x xs k => rw [held_nil_r]; simp
 | case3 k x xs ys ih => rw [held_same]; simp [ih]
 | case4 x xs y ys k h hg ih => rw [held_skip h _ _ _ hg]; simp [ih]
 | case5 x xs y ys k h hg ih => rw [held_turn h _ _ _ hg]; exact ih
/-! ### what the printed functions come to -/
theorem w64 {x : Int} (h0 : -9223372036854775808 ≤ x) (h1 : x ≤ 9223372036854775807) : wrap64 x = x := by unfold wrap64; omega
theorem w32 {x : Int} (h0 : -2147483648 ≤ x) (h1 : x ≤ 2147483647) : wrap32 x = x := by unfold wrap32; omega
theorem rd_nat (xs : List Int) (i : Nat) : rd xs (i : Int) = xs.getD i 0 := rfl
theorem getD_set_same {α : Type} {xs : List α} {i : Nat} (h : i < xs.length) (v d : α) : (xs.set i v).getD i d = v := by
 rw [List.getD_eq_getElem?_getD, List.getElem?_set_self h]; rfl
theorem getD_set_other {α : Type} {xs : List α} {i j : Nat} (h : i ≠ j) (v d : α) : (xs.set i v).getD j d = xs.getD j d := by
 rw [List.getD_eq_getElem?_getD, List.getD_eq_getElem?_getD, List.getElem?_set_ne h]
theorem drop_get {xs : List Int} {i : Nat} (h : i < xs.length) : xs.drop i = xs.getD i 0 :: xs.drop (i + 1) := by
 rw [List.drop_eq_getElem_cons h, List.getD_eq_getElem?_getD, List.getElem?_eq_getElem h]; rfl
/-- the table's entry -/
def T (a b : List Int) (i k : Nat) : Nat := lcs (a.drop i) (b.drop k)
theorem T_le (a b : List Int) (i k : Nat) : T a b i k ≤ a.length := Nat.le_trans (lcs_le _ _).1 (by simp)
theorem T_end_l (a b : List Int) (k : Nat) {i : Nat} (h : a.length ≤ i) : T a b i k = 0 := by unfold T; rw [List.drop_eq_nil_of_le h, lcs_nil_l]
theorem T_end_r (a b : List Int) (i : Nat) {k : Nat} (h : b.length ≤ k) : T a b i k = 0 := by unfold T; rw [List.drop_eq_nil_of_le h, lcs_nil_r]
theorem T_same {a b : List Int} {i k : Nat} (hi : i < a.length) (hk : k < b.length) (h : a.getD i 0 = b.getD k 0) : T a b i k = T a b (i + 1) (k + 1) + 1 := by
 unfold T; rw [drop_get hi, drop_get hk, h, lcs_same]
theorem T_other {a b : List Int} {i k : Nat} (hi : i < a.length) (hk : k < b.length) (h : ¬ a.getD i 0 = b.getD k 0) : T a b i k = max (T a b (i + 1) k) (T a b i (k + 1)) := by
 unfold T; rw [drop_get hi, drop_get hk, lcs_other h]
/-- row i of the table is told from place k on -/
def RowFrom (a b : List Int) (i k : Nat) (r : List Int) : Prop := r.length = b.length + 1 ∧ ∀ j, k ≤ j → j ≤ b.length → r.getD j 0 = (T a b i j : Int)
def TabFrom (a b : List Int) (i : Nat) (t : List (List Int)) : Prop := t.length = a.length + 1 ∧ ∀ j, i ≤ j → j ≤ a.length → RowFrom a b j 0 (t.getD j [])
theorem row_zero (a b : List Int) (n : Nat) (hn : n = b.length + 1) {i : Nat} (hi : a.length ≤ i) : RowFrom a b i 0 (List.replicate n 0) := by
 subst hn
 refine ⟨by simp, fun j _ hj => ?_⟩
 rw [T_end_l a b j hi, List.getD_eq_getElem?_getD, List.getElem?_replicate]; split <;> rfl
theorem row_last (a b : List Int) (n : Nat) (hn : n = b.length + 1) (i : Nat) : RowFrom a b i b.length (List.replicate n 0) := by
 subst hn
 refine ⟨by simp, fun j h1 h2 => ?_⟩
 rw [T_end_r a b i h1, List.getD_eq_getElem?_getD, List.getElem?_replicate]; split <;> rfl
theorem row_step {a b : List Int} {i k : Nat} {r : List Int} (h : RowFrom a b i (k + 1) r) (hk : k < b.length) : RowFrom a b i k (r.set k (T a b i k : Int)) := by
 refine ⟨by simpa using h.1, fun j h1 h2 => ?_⟩
 by_cases e : k = j
 ·subst e; exact getD_set_same (by rw [h.1]; omega) _ _
 ·rw [getD_set_other e]; exact h.2 j (by omega) h2
theorem tab_over {a b : List Int} {i : Nat} {t : List (List Int)} (h : TabFrom a b (i + 1) t) (r : List Int) : TabFrom a b (i + 1) (t.set i r) := by
 refine ⟨by simpa using h.1, fun j h1 h2 => ?_⟩
 rw [getD_set_other (by omega)]; exact h.2 j h1 h2
theorem none_runs (n : Nat) (hn : n ≤ 3000) : Ev (fun k => lcs_none.f k (n : Int)) (List.replicate n (-1)) := by
 have loop : ∀ (d j : Nat) (x : List Int), n - j = d → j ≤ n → x.length = n → (∀ i, i < j → x.getD i 0 = -1) → Ev (fun k => lcs_none.l0 k x (n : Int) (j : Int)) (List.replicate n (-1)) := by
  intro d
  induction d with
  | zero =>
   intro j x hd hj hx hp
   refine Ev.step (f := fun _ => some (List.replicate n (-1))) (fun k => ?_) (Ev.now _)
   simp only [lcs_none.l0]
   rw [if_neg (by omega)]
   refine congrArg some (List.ext_getElem? fun i => ?_)
   by_cases hi : i < n
   ·have := hp i (by omega)
    rw [List.getD_eq_getElem?_getD] at this
    rw [List.getElem?_replicate, if_pos hi]
    rw [List.getElem?_eq_getElem (by omega)] at this ⊢
    simpa using this
   ·rw [List.getElem?_eq_none (by omega), List.getElem?_replicate, if_neg hi]
  | succ d ih =>
   intro j x hd hj hx hp
   refine Ev.step (f := fun k => lcs_none.l0 k (x.set j (-1)) (n : Int) ((j + 1 : Nat) : Int)) (fun k => ?_) (ih (j + 1) _ (by omega) (by omega) (by simpa using hx) (fun i hi => ?_))
   ·simp only [lcs_none.l0]
    rw [if_pos (by omega), if_pos (by omega), if_pos (by omega), w64 (by omega) (by omega)]
    rfl
   ·by_cases e : j = i
    ·subst e; exact getD_set_same (by omega) _ _
    ·rw [getD_set_other e]; exact hp i (by omega)
 refine Ev.congr (f := fun k => lcs_none.l0 k (List.replicate n 0) (n : Int) 0) (fun k => ?_) (loop n 0 _ (by omega) (by omega) (by simp) (fun i hi => by omega))
 simp only [lcs_none.f]
 rw [if_pos (by omega), if_pos (by omega)]
 rfl
theorem tab_of_row {a b : List Int} {i : Nat} {t : List (List Int)} (h : TabFrom a b (i + 1) t) (hr : RowFrom a b i 0 (t.getD i [])) : TabFrom a b i t := by
 refine ⟨h.1, fun j h1 h2 => ?_⟩
 by_cases e : i = j
 ·subst e; exact hr
 ·exact h.2 j (by omega) h2
theorem mx_nat (x y : Nat) : mx (x : Int) (y : Int) = ((max x y : Nat) : Int) := by unfold mx; split <;> omega
theorem left_runs (a b : List Int) (ha : a.length ≤ 3000) (hb : b.length ≤ 3000) : ∃ t, TabFrom a b 0 t ∧ Ev (fun k => lcs_left.f k a b) t := by
 have outer : ∀ (i : Nat), i ≤ a.length → ∀ t, TabFrom a b i t → ∃ t', TabFrom a b 0 t' ∧ Ev (fun k => lcs_left.l0 k a b t ((i : Int) - 1)) t' := by
  intro i
  induction i with
  | zero =>
   intro _ t ht
   refine ⟨t, ht, Ev.step (f := fun _ => some t) (fun k => ?_) (Ev.now _)⟩
   simp only [lcs_left.l0]
   rw [if_neg (by omega)]
  | succ i ihi =>
   intro hi t ht
   have inner : ∀ (j : Nat), j ≤ b.length → ∀ t, TabFrom a b (i + 1) t → RowFrom a b i j (t.getD i []) → ∃ t', TabFrom a b 0 t' ∧ Ev (fun k => lcs_left.l1 k a b t (i : Int) ((j : Int) - 1)) t' := by
    intro j
    induction j with
    | zero =>
     intro _ t ht hr
     obtain ⟨t', h1, h2⟩ := ihi (by omega) t (tab_of_row ht hr)
     refine ⟨t', h1, Ev.step (f := fun k => lcs_left.l0 k a b t ((i : Int) - 1)) (fun k => ?_) h2⟩
     simp only [lcs_left.l1]
     rw [if_neg (by omega), w64 (by omega) (by omega)]
    | succ j ihj =>
     intro hj t ht hr
     have hrow := ht.2 (i + 1) (Nat.le_refl _) hi
     have hlen := ht.1
     obtain ⟨t', h1, h2⟩ := ihj (by omega) (t.set i ((t.getD i []).set j (T a b i j : Int))) (tab_over ht _) (by rw [getD_set_same (by omega)]; exact row_step hr (by omega))
     refine ⟨t', h1, Ev.step (f := fun k => lcs_left.l1 k a b (t.set i ((t.getD i []).set j (T a b i j : Int))) (i : Int) ((j : Int) - 1)) (fun k => ?_) h2⟩
     have e1 : ((j + 1 : Nat) : Int) - 1 = (j : Int) := by omega
     have e2 : wrap64 ((i : Int) + 1) = ((i + 1 : Nat) : Int) := by rw [w64 (by omega) (by omega)]; omega
     have e3 : wrap64 ((j : Int) + 1) = ((j + 1 : Nat) : Int) := by rw [w64 (by omega) (by omega)]; omega
     have e4 : wrap64 ((j : Int) - 1) = (j : Int) - 1 := w64 (by omega) (by omega)
     have r1 : rd_L2 t ((i + 1 : Nat) : Int) = t.getD (i + 1) [] := rfl
     have r0 : rd_L2 t (i : Int) = t.getD i [] := rfl
     have hT := T_le a b (i + 1) (j + 1)
     simp only [lcs_left.l1]
     rw [e1, e2, e3, e4, r1, r0, if_pos (by omega), if_pos (by omega), if_pos (by omega), if_pos (by omega), if_pos (by omega)]
     by_cases he : a.getD i 0 = b.getD j 0
     ·rw [if_pos (show rd a (i : Int) = rd b (j : Int) from he), if_pos (by omega), if_pos (by omega), if_pos (by omega), if_pos (by omega), if_pos (by rw [hrow.1]; omega), if_pos (by rw [hr.1]; omega)]
      simp only [rd_nat, Int.toNat_natCast]
      rw [hrow.2 (j + 1) (by omega) (by omega), w32 (by omega) (by omega), T_same (by omega) (by omega) he]
      rfl
     ·rw [if_neg (show ¬ rd a (i : Int) = rd b (j : Int) from he), if_pos (by omega), if_pos (by omega), if_pos (by omega), if_pos (by rw [hrow.1]; omega), if_pos (by omega), if_pos (by rw [hr.1]; omega), if_pos (by rw [hr.1]; omega)]
      simp only [rd_nat, Int.toNat_natCast]
      rw [hrow.2 j (by omega) (by omega), hr.2 (j + 1) (by omega) (by omega), mx_nat, T_other (by omega) (by omega) he]
   have hlen := ht.1
   obtain ⟨t', h1, h2⟩ := inner b.length (Nat.le_refl _) (t.set i (List.replicate (wrap64 ((b.length : Int) + 1)).toNat 0)) (tab_over ht _) (by rw [getD_set_same (by omega)]; exact row_last a b _ (by rw [w64 (by omega) (by omega)]; omega) i)
   refine ⟨t', h1, Ev.step (f := fun k => lcs_left.l1 k a b (t.set i (List.replicate (wrap64 ((b.length : Int) + 1)).toNat 0)) (i : Int) ((b.length : Int) - 1)) (fun k => ?_) h2⟩
   have e1 : ((i + 1 : Nat) : Int) - 1 = (i : Int) := by omega
   have e2 : wrap64 ((b.length : Int) - 1) = (b.length : Int) - 1 := w64 (by omega) (by omega)
   have e3 : wrap64 ((b.length : Int) + 1) = (b.length : Int) + 1 := w64 (by omega) (by omega)
   simp only [lcs_left.l0]
   rw [e1, e2, e3, if_pos (by omega), if_pos (by omega), if_pos (by omega), if_pos (by omega), if_pos (by omega)]
   rfl
 have e3 : wrap64 ((b.length : Int) + 1) = (b.length : Int) + 1 := w64 (by omega) (by omega)
 have e4 : wrap64 ((a.length : Int) + 1) = (a.length : Int) + 1 := w64 (by omega) (by omega)
 have e5 : wrap64 ((a.length : Int) - 1) = (a.length : Int) - 1 := w64 (by omega) (by omega)
 have hl : (List.replicate ((a.length : Int) + 1).toNat ([] : List Int)).length = a.length + 1 := by rw [List.length_replicate]; omega
 obtain ⟨t', h1, h2⟩ := outer a.length (Nat.le_refl _) ((List.replicate ((a.length : Int) + 1).toNat []).set a.length (List.replicate ((b.length : Int) + 1).toNat 0)) ⟨by rw [List.length_set, hl], fun j h1 h2 => by
  obtain rfl : j = a.length := by omega
  rw [getD_set_same (by omega)]
  exact row_zero a b _ (by omega) (Nat.le_refl _)⟩
 refine ⟨t', h1, Ev.congr (fun k => ?_) h2⟩
 simp only [lcs_left.f]
 rw [e3, e4, e5, if_pos (by omega), if_pos (by omega), Option.bind_some, if_pos (by omega), if_pos (by omega), if_pos (by omega), if_pos (by rw [hl]; omega)]
 rfl
theorem w64s (i : Nat) (h : i ≤ 1000000000) : wrap64 ((i : Int) + 1) = ((i + 1 : Nat) : Int) := by rw [w64 (by omega) (by omega)]; omega
theorem set_mid (pre : List Int) (n : Nat) (v : Int) : (pre ++ List.replicate (n + 1) (-1)).set pre.length v = (pre ++ [v]) ++ List.replicate n (-1) := by
 rw [List.set_append_right _ _ (Nat.le_refl _), Nat.sub_self, List.replicate_succ, List.set_cons_zero, List.append_assoc]
 rfl
theorem match_loop (a b : List Int) (ha : a.length ≤ 3000) (hb : b.length ≤ 3000) (t : List (List Int)) (ht : TabFrom a b 0 t) : ∀ (d i j : Nat) (pre : List Int), (a.length - i) + (b.length - j) = d → i ≤ a.length → j ≤ b.length → pre.length = i →
  Ev (fun k => lcs_Match.l0 k a b (pre ++ List.replicate (a.length - i) (-1)) t (i : Int) (j : Int)) (pre ++ held (a.drop i) (b.drop j) j) := by
 intro d
 induction d using Nat.strongRecOn with
 | _ d ih =>
 intro i j pre hd hi hj hp
 by_cases h1 : i < a.length
 ·by_cases h2 : j < b.length
  ·have hn : a.length - i = (a.length - (i + 1)) + 1 := (Nat.succ_pred_eq_of_pos (Nat.sub_pos_of_lt h1)).symm
   have hlen := ht.1
   have r1 := ht.2 (i + 1) (Nat.zero_le _) (by omega)
   have r0 := ht.2 i (Nat.zero_le _) (by omega)
   have q1 : rd_L2 t ((i + 1 : Nat) : Int) = t.getD (i + 1) [] := rfl
   have q0 : rd_L2 t (i : Int) = t.getD i [] := rfl
   have hol : (pre ++ List.replicate (a.length - i) (-1)).length = a.length := by rw [List.length_append, List.length_replicate]; omega
   refine Ev.step (f := fun k => lcs_Match.j2 k a b (pre ++ List.replicate (a.length - i) (-1)) t (i : Int) (j : Int) true) (fun k => ?_) ?_
   ·simp only [lcs_Match.l0]
    rw [if_pos (by omega), decide_eq_true (by omega)]
   by_cases he : a.getD i 0 = b.getD j 0
   ·refine Ev.step (f := fun k => lcs_Match.l0 k a b ((pre ++ [(j : Int)]) ++ List.replicate (a.length - (i + 1)) (-1)) t ((i + 1 : Nat) : Int) ((j + 1 : Nat) : Int)) (fun k => ?_) ?_
    ·simp only [lcs_Match.j2]
     rw [if_pos trivial, if_pos (by omega), if_pos (by omega), if_pos (by omega), if_pos (by omega), if_pos (show rd a (i : Int) = rd b (j : Int) from he), if_pos (by rw [hol]; omega), w64s i (by omega), w64s j (by omega)]
     rw [Int.toNat_natCast, hn, ← hp, set_mid, hp]
    ·have := ih ((a.length - (i + 1)) + (b.length - (j + 1))) (by omega) (i + 1) (j + 1) (pre ++ [(j : Int)]) rfl (by omega) (by omega) (by rw [List.length_append, hp]; rfl)
     rw [drop_get h1, drop_get h2, he, held_same]
     simpa using this
   ·by_cases hg : T a b (i + 1) j ≥ T a b i (j + 1)
    ·refine Ev.step (f := fun k => lcs_Match.l0 k a b ((pre ++ [-1]) ++ List.replicate (a.length - (i + 1)) (-1)) t ((i + 1 : Nat) : Int) (j : Int)) (fun k => ?_) ?_
     ·simp only [lcs_Match.j2]
      rw [if_pos trivial, if_pos (by omega), if_pos (by omega), if_pos (by omega), if_pos (by omega), if_neg (show ¬ rd a (i : Int) = rd b (j : Int) from he), w64s i (by omega), w64s j (by omega), q1, q0, if_pos (by omega), if_pos (by omega), if_pos (by rw [r1.1]; omega), if_pos (by omega), if_pos (by omega), if_pos (by rw [r0.1]; omega), if_pos (by rw [rd_nat, rd_nat, r1.2 j (by omega) (by omega), r0.2 (j + 1) (by omega) (by omega)]; omega)]
      rw [show a.length - i = (a.length - (i + 1)) + 1 by omega, List.replicate_succ, List.append_assoc]
      rfl
     ·have := ih ((a.length - (i + 1)) + (b.length - j)) (by omega) (i + 1) j (pre ++ [-1]) rfl (by omega) (by omega) (by rw [List.length_append, hp]; rfl)
      rw [drop_get h1, drop_get h2, held_skip he _ _ _ (by rw [← drop_get h1, ← drop_get h2]; exact hg), ← drop_get h2]
      simpa using this
    ·refine Ev.step (f := fun k => lcs_Match.l0 k a b (pre ++ List.replicate (a.length - i) (-1)) t (i : Int) ((j + 1 : Nat) : Int)) (fun k => ?_) ?_
     ·simp only [lcs_Match.j2]
      rw [if_pos trivial, if_pos (by omega), if_pos (by omega), if_pos (by omega), if_pos (by omega), if_neg (show ¬ rd a (i : Int) = rd b (j : Int) from he), w64s i (by omega), w64s j (by omega), q1, q0, if_pos (by omega), if_pos (by omega), if_pos (by rw [r1.1]; omega), if_pos (by omega), if_pos (by omega), if_pos (by rw [r0.1]; omega), if_neg (by rw [rd_nat, rd_nat, r1.2 j (by omega) (by omega), r0.2 (j + 1) (by omega) (by omega)]; omega)]
     ·have := ih ((a.length - i) + (b.length - (j + 1))) (by omega) i (j + 1) pre rfl (by omega) (by omega) hp
      rw [drop_get h1, drop_get h2, held_turn he _ _ _ (by rw [← drop_get h1, ← drop_get h2]; exact hg), ← drop_get h1]
      exact this
  ·refine Ev.step (f := fun k => lcs_Match.j2 k a b (pre ++ List.replicate (a.length - i) (-1)) t (i : Int) (j : Int) false) (fun k => ?_) (Ev.step (f := fun _ => some (pre ++ List.replicate (a.length - i) (-1))) (fun k => ?_) ?_)
   ·simp only [lcs_Match.l0]
    rw [if_pos (by omega), decide_eq_false (by omega)]
   ·simp only [lcs_Match.j2]
    rw [if_neg (by decide)]
   ·rw [List.drop_eq_nil_of_le (by omega : b.length ≤ j), held_nil_r, List.length_drop]
    exact Ev.now _
 ·refine Ev.step (f := fun k => lcs_Match.j2 k a b (pre ++ List.replicate (a.length - i) (-1)) t (i : Int) (j : Int) false) (fun k => ?_) (Ev.step (f := fun _ => some (pre ++ List.replicate (a.length - i) (-1))) (fun k => ?_) ?_)
  ·simp only [lcs_Match.l0]
   rw [if_neg (by omega)]
  ·simp only [lcs_Match.j2]
   rw [if_neg (by decide)]
  ·rw [List.drop_eq_nil_of_le (by omega : a.length ≤ i), show a.length - i = 0 by omega, held]
   exact Ev.now _
theorem match_runs (a b : List Int) (ha : a.length ≤ 2000) (hb : b.length ≤ 2000) : Ev (fun k => lcs_Match.f k a b) (held a b 0) := by
 obtain ⟨t, ht, he⟩ := left_runs a b (by omega) (by omega)
 refine Ev.bind (f := fun k t140 => if (a.length : Int) > 2000 then lcs_Match.j0 k a b t140 true else lcs_Match.j0 k a b t140 (decide ((b.length : Int) > 2000))) (none_runs a.length (by omega)) ?_
 refine Ev.congr (f := fun k => lcs_Match.j0 k a b (List.replicate a.length (-1)) false) (fun k => ?_) (Ev.step (f := fun k => (lcs_left.f k a b).bind fun t146 => lcs_Match.l0 k a b (List.replicate a.length (-1)) t146 0 0) (fun k => ?_) (Ev.bind he ?_))
 ·show (if (a.length : Int) > 2000 then _ else _) = _
  rw [if_neg (by omega), decide_eq_false (by omega)]
 ·simp only [lcs_Match.j0]
  rw [if_neg (by decide)]
 ·have := match_loop a b (by omega) (by omega) t ht _ 0 0 [] rfl (by omega) (by omega) rfl
  simpa using this
/-! ### laws of the longest common rows -/
/-- rising places, at which the things are alike -/
def Rises (b : List Int) : List Int → List Int → Int → Prop
 | x :: xs, m :: l, last => if m < 0 then Rises b xs l last else (last < m ∧ m < b.length ∧ b.getD m.toNat 0 = x) ∧ Rises b xs l m
 | [], [], _ => True
 | _, _, _ => False
theorem rises_none (b : List Int) : ∀ (xs : List Int) (last : Int), Rises b xs (List.replicate xs.length (-1)) last := by
 intro xs
 induction xs with
 | nil => intro last; trivial
 | cons x xs ih => intro last; rw [List.length_cons, List.replicate_succ, Rises, if_pos (by omega)]; exact ih last
theorem held_rises (b : List Int) : ∀ (xs ys : List Int) (k : Nat) (last : Int), ys = b.drop k → last < k → Rises b xs (held xs ys k) last := by
 intro xs ys k
 induction xs, ys, k using held.induct with
 | case1 ys k => intro last _ _; rw [held]; trivial
 | case2 x xs k => intro last _ _; rw [held_nil_r]; exact rises_none b _ _
 | case3 xs x ys k ih =>
  intro last hy hl
  have hk : k < b.length := by
   rcases Nat.lt_or_ge k b.length with h | h
   ·exact h
   ·rw [List.drop_eq_nil_of_le h] at hy; cases hy
  rw [drop_get hk] at hy
  injection hy with e1 e2
  rw [held_same, Rises, if_neg (by omega)]
  exact ⟨⟨hl, by omega, e1.symm⟩, ih _ e2 (by omega)⟩
 | case4 x xs y ys k h hg ih => intro last hy hl; rw [held_skip h _ _ _ hg, Rises, if_pos (by omega)]; exact ih _ hy hl
 | case5 x xs y ys k h hg ih =>
  intro last hy hl
  have hk : k < b.length := by
   rcases Nat.lt_or_ge k b.length with h | h
   ·exact h
   ·rw [List.drop_eq_nil_of_le h] at hy; cases hy
  rw [drop_get hk] at hy
  injection hy with e1 e2
  rw [held_turn h _ _ _ hg]; exact ih _ e2 (by omega)
/-! where three rows are cut -/
theorem rises_get (b : List Int) : ∀ (xs l : List Int) (last : Int), Rises b xs l last → ∀ i, i < xs.length → 0 ≤ l.getD i 0 → last < l.getD i 0 ∧ l.getD i 0 < b.length ∧ b.getD (l.getD i 0).toNat 0 = xs.getD i 0 := by
 intro xs
 induction xs with
 | nil => intro l last _ i hi; simp at hi
 | cons x xs ih =>
  intro l last h i hi h0
  cases l with
  | nil => exact absurd h (by simp [Rises])
  | cons m l =>
   rw [Rises] at h
   by_cases hm : m < 0
   ·rw [if_pos hm] at h
    cases i with
    | zero => simp only [List.getD_cons_zero] at h0; omega
    | succ i =>
     simp only [List.getD_cons_succ] at h0 ⊢
     simp only [List.length_cons] at hi
     exact ih l last h i (by omega) h0
   ·rw [if_neg hm] at h
    obtain ⟨⟨h1, h2, h3⟩, h4⟩ := h
    cases i with
    | zero => simp only [List.getD_cons_zero]; exact ⟨h1, h2, h3⟩
    | succ i =>
     simp only [List.getD_cons_succ] at h0 ⊢
     simp only [List.length_cons] at hi
     obtain ⟨g1, g2, g3⟩ := ih l m h4 i (by omega) h0
     exact ⟨by omega, g2, g3⟩
theorem rises_lt (b : List Int) : ∀ (xs l : List Int) (last : Int), Rises b xs l last → ∀ i j, i < j → j < xs.length → 0 ≤ l.getD i 0 → 0 ≤ l.getD j 0 → l.getD i 0 < l.getD j 0 := by
 intro xs
 induction xs with
 | nil => intro l last _ i j _ hj; simp at hj
 | cons x xs ih =>
  intro l last h i j hij hj h0 h1
  cases l with
  | nil => exact absurd h (by simp [Rises])
  | cons m l =>
   rw [Rises] at h
   simp only [List.length_cons] at hj
   obtain ⟨j, rfl⟩ : ∃ j', j = j' + 1 := ⟨j - 1, by omega⟩
   simp only [List.getD_cons_succ] at h1 ⊢
   by_cases hm : m < 0
   ·rw [if_pos hm] at h
    cases i with
    | zero => simp only [List.getD_cons_zero] at h0; omega
    | succ i =>
     simp only [List.getD_cons_succ] at h0 ⊢
     exact ih l last h i j (by omega) (by omega) h0 h1
   ·rw [if_neg hm] at h
    cases i with
    | zero =>
     simp only [List.getD_cons_zero]
     exact (rises_get b xs l m h.2 j (by omega) h1).1
    | succ i =>
     simp only [List.getD_cons_succ] at h0 ⊢
     exact ih l m h.2 i j (by omega) (by omega) h0 h1
/-- places that rise -/
structure Up (m : List Int) (lo la : Nat) : Prop where
 len : m.length = lo
 lt : ∀ i, i < lo → 0 ≤ m.getD i 0 → m.getD i 0 < la
 mono : ∀ i j, i < j → j < lo → 0 ≤ m.getD i 0 → 0 ≤ m.getD j 0 → m.getD i 0 < m.getD j 0
theorem held_up (a b : List Int) : Up (held a b 0) a.length b.length :=
 have h := held_rises b a b 0 (-1) rfl (by omega)
 ⟨held_length a b 0, fun i hi h0 => (rises_get b a _ _ h i hi h0).2.1, fun i j hij hj h0 h1 => rises_lt b a _ _ h i j hij hj h0 h1⟩
abbrev Tr := Int × Int × Int
open diff3_Chunks (stab nxt chs)
theorem stab_is (ma mb : List Int) (o a b lo : Nat) : ∀ d n, n ≤ stab ma mb o a b lo d n ∧ stab ma mb o a b lo d n ≤ n + d ∧ (∀ j, n ≤ j → j < stab ma mb o a b lo d n → ma.getD (o + j) 0 = ((a + j : Nat) : Int) ∧ mb.getD (o + j) 0 = ((b + j : Nat) : Int)) ∧
  (stab ma mb o a b lo d n < n + d → ¬ (ma.getD (o + stab ma mb o a b lo d n) 0 = ((a + stab ma mb o a b lo d n : Nat) : Int) ∧ mb.getD (o + stab ma mb o a b lo d n) 0 = ((b + stab ma mb o a b lo d n : Nat) : Int))) := by
 intro d
 induction d with
 | zero => intro n; rw [stab]; exact ⟨Nat.le_refl _, Nat.le_refl _, fun j h1 h2 => by omega, fun h => by omega⟩
 | succ d ih =>
  intro n
  rw [stab]
  split
  ·rename_i h
   obtain ⟨h1, h2, h3, h4⟩ := ih (n + 1)
   refine ⟨by omega, by omega, fun j g1 g2 => ?_, fun g => h4 (by omega)⟩
   by_cases hj : j = n
   ·subst hj; exact h
   ·exact h3 j (by omega) g2
  ·rename_i h
   exact ⟨Nat.le_refl _, by omega, fun j h1 h2 => by omega, fun _ => h⟩
theorem nxt_is (ma mb : List Int) (lo la lb : Nat) : ∀ d p, p + d = lo →
  (∃ q, p ≤ q ∧ q < lo ∧ 0 ≤ ma.getD q 0 ∧ 0 ≤ mb.getD q 0 ∧ nxt ma mb lo la lb d p = ((q : Int), ma.getD q 0, mb.getD q 0)) ∨ ((∀ r, p ≤ r → r < lo → ¬ (0 ≤ ma.getD r 0 ∧ 0 ≤ mb.getD r 0)) ∧ nxt ma mb lo la lb d p = ((lo : Int), (la : Int), (lb : Int))) := by
 intro d
 induction d with
 | zero => intro p hp; exact .inr ⟨fun r h1 h2 => by omega, by rw [nxt]⟩
 | succ d ih =>
  intro p hp
  rw [nxt]
  split
  ·rename_i h
   exact .inl ⟨p, Nat.le_refl _, by omega, h.1, h.2, rfl⟩
  ·rename_i h
   rcases ih (p + 1) (by omega) with ⟨q, h1, h2, h3, h4, h5⟩ | ⟨h1, h2⟩
   ·exact .inl ⟨q, by omega, h2, h3, h4, h5⟩
   ·refine .inr ⟨fun r g1 g2 => ?_, h2⟩
    by_cases hr : r = p
    ·subst hr; exact h
    ·exact h1 r (by omega) g2
/-- what is held from here on lies here or behind -/
def Bh (m : List Int) (lo o a : Nat) : Prop := ∀ p, o ≤ p → p < lo → 0 ≤ m.getD p 0 → (a : Int) ≤ m.getD p 0
theorem bh_next {m : List Int} {lo la : Nat} (h : Up m lo la) {q : Nat} (hq : q < lo) (h0 : 0 ≤ m.getD q 0) : Bh m lo q (m.getD q 0).toNat := fun p h1 h2 h3 => by
 by_cases hp : p = q
 ·subst hp; omega
 ·have := h.mono q p (by omega) h2 h0 h3; omega
theorem bh_stab {m : List Int} {lo la : Nat} (h : Up m lo la) {o a N : Nat} (hN : 0 < N) (hoN : o + N ≤ lo) (hm : m.getD (o + (N - 1)) 0 = ((a + (N - 1) : Nat) : Int)) : Bh m lo (o + N) (a + N) ∧ a + N ≤ la := by
 have h1 := h.lt (o + (N - 1)) (by omega) (by omega)
 refine ⟨fun p g1 g2 g3 => ?_, by omega⟩
 have := h.mono (o + (N - 1)) p (by omega) g2 (by omega) g3
 omega
theorem to_is {ma mb : List Int} {lo la lb : Nat} (ua : Up ma lo la) (ub : Up mb lo lb) {o a b : Nat} (ho : o ≤ lo) (ha : a ≤ la) (hb : b ≤ lb) (ba : Bh ma lo o a) (bb : Bh mb lo o b) (he : ¬ (o = lo ∧ a = la ∧ b = lb)) :
  ∃ o' a' b' : Nat, diff3_Chunks.to ma mb lo la lb o a b = ((o' : Int), (a' : Int), (b' : Int)) ∧ o ≤ o' ∧ a ≤ a' ∧ b ≤ b' ∧ o + a + b < o' + a' + b' ∧ o' ≤ lo ∧ a' ≤ la ∧ b' ≤ lb ∧ Bh ma lo o' a' ∧ Bh mb lo o' b' := by
 obtain ⟨s1, s2, s3, s4⟩ := stab_is ma mb o a b lo (lo - o) 0
 unfold diff3_Chunks.to
 by_cases hN : 0 < diff3_Chunks.stab ma mb o a b lo (lo - o) 0
 ·rw [if_pos hN]
  obtain ⟨N, hNe⟩ : ∃ N, diff3_Chunks.stab ma mb o a b lo (lo - o) 0 = N := ⟨_, rfl⟩
  rw [hNe] at hN
  rw [hNe] at s1 s2 s3
  have h3 := s3 (N - 1) (by omega) (by omega)
  obtain ⟨p1, p2⟩ := bh_stab ua hN (by omega) h3.1
  obtain ⟨p3, p4⟩ := bh_stab ub hN (by omega) h3.2
  refine ⟨o + N, a + N, b + N, ?_, by omega, by omega, by omega, by omega, by omega, p2, p4, p1, p3⟩
  rw [hNe]
  simp
 ·rw [if_neg hN]
  rcases nxt_is ma mb lo la lb (lo - o) o (by omega) with ⟨q, h1, h2, h3, h4, h5⟩ | ⟨h1, h2⟩
  ·have g1 := ba q h1 h2 h3
   have g2 := bb q h1 h2 h4
   have g3 := ua.lt q h2 h3
   have g4 := ub.lt q h2 h4
   refine ⟨q, (ma.getD q 0).toNat, (mb.getD q 0).toNat, ?_, h1, by omega, by omega, ?_, by omega, by omega, by omega, bh_next ua h2 h3, bh_next ub h2 h4⟩
   ·rw [show diff3_Chunks.nxt ma mb lo la lb (lo - o) o = _ from h5, Int.toNat_of_nonneg h3, Int.toNat_of_nonneg h4]
   ·rcases Nat.lt_or_ge (o + a + b) (q + (ma.getD q 0).toNat + (mb.getD q 0).toNat) with h | h
    ·exact h
    ·exfalso
     have e1 : q = o := by omega
     subst e1
     have hz : diff3_Chunks.stab ma mb q a b lo (lo - q) 0 = 0 := by omega
     have := s4 (by rw [hz]; omega)
     rw [hz] at this
     exact this ⟨by simp only [Nat.add_zero]; omega, by simp only [Nat.add_zero]; omega⟩
  ·refine ⟨lo, la, lb, h2, ho, ha, hb, by omega, Nat.le_refl _, Nat.le_refl _, Nat.le_refl _, fun p g1 g2 => by omega, fun p g1 g2 => by omega⟩
theorem chs_next {ma mb : List Int} {lo la lb o a b o' a' b' : Nat} (ht : diff3_Chunks.to ma mb lo la lb o a b = ((o' : Int), (a' : Int), (b' : Int))) (he : ¬ (o = lo ∧ a = la ∧ b = lb)) (h1 : o ≤ o') (h2 : a ≤ a') (h3 : b ≤ b') (h4 : o + a + b < o' + a' + b') (h5 : o' ≤ lo) (h6 : a' ≤ la) (h7 : b' ≤ lb) (k : Nat) :
  chs ma mb lo la lb (k + 1) o a b = (chs ma mb lo la lb k o' a' b').map ((((o : Int), (a : Int), (b : Int)), ((o' : Int), (a' : Int), (b' : Int))) :: ·) := by
 rw [chs, if_neg he]
 dsimp only
 rw [ht]
 dsimp only
 rw [if_pos ⟨by omega, by omega, by omega, by omega, by omega, by omega, by omega⟩]
 simp only [Int.toNat_natCast]
/-- the cuts: one behind the other, from one place to the end -/
inductive Cuts (ma mb : List Int) (lo la lb : Nat) : Nat → Nat → Nat → List (Tr × Tr) → Prop
 | nil : Cuts ma mb lo la lb lo la lb []
 | cons {o a b o' a' b' : Nat} {l : List (Tr × Tr)} : ¬ (o = lo ∧ a = la ∧ b = lb) → diff3_Chunks.to ma mb lo la lb o a b = ((o' : Int), (a' : Int), (b' : Int)) → o ≤ o' → a ≤ a' → b ≤ b' → o + a + b < o' + a' + b' → o' ≤ lo → a' ≤ la → b' ≤ lb → Bh ma lo o a → Bh mb lo o b →
   Cuts ma mb lo la lb o' a' b' l → Cuts ma mb lo la lb o a b ((((o : Int), (a : Int), (b : Int)), ((o' : Int), (a' : Int), (b' : Int))) :: l)
theorem cuts_are {ma mb : List Int} {lo la lb : Nat} (ua : Up ma lo la) (ub : Up mb lo lb) : ∀ (d o a b : Nat), lo + la + lb - (o + a + b) ≤ d → o ≤ lo → a ≤ la → b ≤ lb → Bh ma lo o a → Bh mb lo o b →
  ∃ l, Cuts ma mb lo la lb o a b l ∧ l.length ≤ d := by
 intro d
 induction d with
 | zero =>
  intro o a b hd ho ha hb _ _
  obtain rfl : o = lo := by omega
  obtain rfl : a = la := by omega
  obtain rfl : b = lb := by omega
  exact ⟨[], .nil, Nat.le_refl _⟩
 | succ d ih =>
  intro o a b hd ho ha hb ba bb
  by_cases he : o = lo ∧ a = la ∧ b = lb
  ·obtain ⟨rfl, rfl, rfl⟩ := he
   exact ⟨[], .nil, Nat.zero_le _⟩
  ·obtain ⟨o', a', b', ht, h1, h2, h3, h4, h5, h6, h7, h8, h9⟩ := to_is ua ub ho ha hb ba bb he
   obtain ⟨l, g1, g2⟩ := ih o' a' b' (by omega) h5 h6 h7 h8 h9
   exact ⟨_, .cons he ht h1 h2 h3 h4 h5 h6 h7 ba bb g1, by simp only [List.length_cons]; omega⟩
theorem cuts_ev {ma mb : List Int} {lo la lb p q s : Nat} {l : List (Tr × Tr)} (h : Cuts ma mb lo la lb p q s l) : Ev (fun k => chs ma mb lo la lb k p q s) l := by
 induction h with
 | nil => exact Ev.step (f := fun _ => some []) (fun k => by simp only [chs]; rw [if_pos ⟨trivial, trivial, trivial⟩]) (Ev.now _)
 | @cons o a b o' a' b' l he ht h1 h2 h3 h4 h5 h6 h7 h8 h9 hc ih =>
  exact Ev.step (fun k => chs_next ht he h1 h2 h3 h4 h5 h6 h7 k) (Ev.congr (f := fun k => (chs ma mb lo la lb k o' a' b').bind fun l => some ((((o : Int), (a : Int), (b : Int)), ((o' : Int), (a' : Int), (b' : Int))) :: l)) (fun k => by cases chs ma mb lo la lb k o' a' b' <;> rfl) (Ev.bind ih (Ev.now _)))
def Fits (lo la lb : Nat) (x : Tr × Tr) : Prop := 0 ≤ x.1.1 ∧ x.1.1 ≤ x.2.1 ∧ x.2.1 ≤ lo ∧ 0 ≤ x.1.2.1 ∧ x.1.2.1 ≤ x.2.2.1 ∧ x.2.2.1 ≤ la ∧ 0 ≤ x.1.2.2 ∧ x.1.2.2 ≤ x.2.2.2 ∧ x.2.2.2 ≤ lb
theorem cuts_fit {ma mb : List Int} {lo la lb p q s : Nat} {l : List (Tr × Tr)} (h : Cuts ma mb lo la lb p q s l) : ∀ x ∈ l, Fits lo la lb x := by
 induction h with
 | nil => intro x hx; cases hx
 | @cons o a b o' a' b' l he ht h1 h2 h3 h4 h5 h6 h7 h8 h9 hc ih =>
  intro x hx
  rcases List.mem_cons.1 hx with rfl | hx
  ·exact ⟨by simp, by simpa using h1, by simpa using h5, by simp, by simpa using h2, by simpa using h6, by simp, by simpa using h3, by simpa using h7⟩
  ·exact ih x hx
/-! what each piece says -/
def sl (l : List Int) (i j : Int) : List Int := (l.take j.toNat).drop i.toNat
theorem sl_length (l : List Int) (i j : Int) : (sl l i j).length ≤ l.length := by unfold sl; simp only [List.length_drop, List.length_take]; omega
def kd (x y z : List Int) : Int := if x = y then (if x = z then 0 else 2) else if x = z then 1 else if y = z then 3 else 4
theorem wi (i : Nat) (h : i ≤ 1000000000) : wrap64 ((i : Int) + 1) = ((i + 1 : Nat) : Int) := by rw [w64 (by omega) (by omega)]; omega
theorem wa {x y : Nat} (h : x + y ≤ 1000000000) : wrap64 ((x : Int) + (y : Int)) = ((x + y : Nat) : Int) := by rw [w64 (by omega) (by omega)]; omega
theorem equal_loop (x y : List Int) (hx : x.length ≤ 1000000) (hy : y.length = x.length) : ∀ (d i : Nat), x.length - i = d → i ≤ x.length → Ev (fun k => slices_Equal_int_int.l0 k x y (x.length : Int) (i : Int)) (decide (x.drop i = y.drop i)) := by
 intro d
 induction d with
 | zero =>
  intro i hd hi
  rw [List.drop_eq_nil_of_le (by omega), List.drop_eq_nil_of_le (by omega)]
  exact Ev.step (f := fun _ => some true) (fun k => by simp only [slices_Equal_int_int.l0]; rw [if_neg (by omega)]) (Ev.now _)
 | succ d ih =>
  intro i hd hi
  rw [drop_get (show i < x.length by omega), drop_get (show i < y.length by omega)]
  by_cases he : x.getD i 0 = y.getD i 0
  ·rw [he]
   refine Ev.step (f := fun k => slices_Equal_int_int.l0 k x y (x.length : Int) ((i + 1 : Nat) : Int)) (fun k => ?_) ?_
   ·simp only [slices_Equal_int_int.l0]
    rw [if_pos (by omega), if_pos (by omega), if_pos (by omega), if_pos (by omega), rd_nat, rd_nat, if_pos he, wi i (by omega)]
   ·simpa using ih (i + 1) (by omega) (by omega)
  ·refine Ev.step (f := fun _ => some false) (fun k => ?_) ?_
   ·simp only [slices_Equal_int_int.l0]
    rw [if_pos (by omega), if_pos (by omega), if_pos (by omega), if_pos (by omega), rd_nat, rd_nat, if_neg he]
   ·rw [decide_eq_false (by intro h; injection h with h1; exact he h1)]; exact Ev.now _
theorem equal_runs (x y : List Int) (hx : x.length ≤ 1000000) : Ev (fun k => slices_Equal_int_int.f k x y) (decide (x = y)) := by
 by_cases h : x.length = y.length
 ·exact Ev.congr (fun k => by unfold slices_Equal_int_int.f; rw [if_pos (by omega)]; rfl) (equal_loop x y hx h.symm x.length 0 (by omega) (by omega))
 ·rw [decide_eq_false (by rintro rfl; exact h rfl)]
  exact Ev.congr (f := fun _ => some false) (fun k => by unfold slices_Equal_int_int.f; rw [if_neg (by omega)]) (Ev.now _)
theorem same5_loop (x y : List Int) (hx : x.length ≤ 1000000) (hy : y.length = x.length) : ∀ (d i : Nat), x.length - i = d → i ≤ x.length → Ev (fun k => r05_Same.l0 k x y (i : Int)) (decide (x.drop i = y.drop i)) := by
 intro d
 induction d with
 | zero =>
  intro i hd hi
  rw [List.drop_eq_nil_of_le (by omega), List.drop_eq_nil_of_le (by omega)]
  exact Ev.step (f := fun _ => some true) (fun k => by simp only [r05_Same.l0]; rw [if_neg (by omega)]) (Ev.now _)
 | succ d ih =>
  intro i hd hi
  rw [drop_get (show i < x.length by omega), drop_get (show i < y.length by omega)]
  by_cases he : x.getD i 0 = y.getD i 0
  ·rw [he]
   refine Ev.step (f := fun k => r05_Same.l0 k x y ((i + 1 : Nat) : Int)) (fun k => ?_) ?_
   ·simp only [r05_Same.l0]
    rw [if_pos (by omega), if_pos (by omega), if_pos (by omega), rd_nat, rd_nat, if_pos he, wi i (by omega)]
   ·simpa using ih (i + 1) (by omega) (by omega)
  ·refine Ev.step (f := fun _ => some false) (fun k => ?_) ?_
   ·simp only [r05_Same.l0]
    rw [if_pos (by omega), if_pos (by omega), if_pos (by omega), rd_nat, rd_nat, if_neg he]
   ·rw [decide_eq_false (by intro h; injection h with h1; exact he h1)]; exact Ev.now _
theorem same5_runs (x y : List Int) (hx : x.length ≤ 1000000) : Ev (fun k => r05_Same.f k x y) (decide (x = y)) := by
 by_cases h : x.length = y.length
 ·exact Ev.congr (fun k => by unfold r05_Same.f; rw [if_pos (by omega)]; rfl) (same5_loop x y hx h.symm x.length 0 (by omega) (by omega))
 ·rw [decide_eq_false (by rintro rfl; exact h rfl)]
  exact Ev.congr (f := fun _ => some false) (fun k => by unfold r05_Same.f; rw [if_neg (by omega)]) (Ev.now _)
theorem kind_j1 (l r b : Bool) (v : Int) (hv : (if b = true then 4 else if l = true then 1 else if r = true then 2 else 0) = v) : Ev (fun k => diff3_kind.j1 k l r b) v := by
 subst hv
 refine Ev.step (f := fun _ => some _) (fun k => ?_) (Ev.now _)
 simp only [diff3_kind.j1]
 cases b <;> cases l <;> cases r <;> simp
theorem kind_j0 (l r b : Bool) (v : Int) (hv : (if b = true then 3 else if l = true ∧ r = true then 4 else if l = true then 1 else if r = true then 2 else 0) = v) : Ev (fun k => diff3_kind.j0 k l r b) v := by
 cases b
 ·cases l
  ·exact Ev.step (f := fun k => diff3_kind.j1 k false r false) (fun k => by simp [diff3_kind.j0]) (kind_j1 _ _ _ _ (by rw [← hv]; simp))
  ·exact Ev.step (f := fun k => diff3_kind.j1 k true r r) (fun k => by simp [diff3_kind.j0]) (kind_j1 _ _ _ _ (by rw [← hv]; simp))
 ·exact Ev.step (f := fun _ => some v) (fun k => by simp [diff3_kind.j0, ← hv]) (Ev.now _)
theorem kind_runs (x y z : List Int) (hx : x.length ≤ 1000000) (hy : y.length ≤ 1000000) : Ev (fun k => diff3_kind.f k x y z) (kd x y z) := by
 unfold diff3_kind.f
 refine Ev.bind (equal_runs x y hx) (Ev.bind (equal_runs x z hx) ?_)
 unfold kd
 by_cases h1 : x = y
 ·refine Ev.congr (fun k => if_pos (decide_eq_true h1)) (kind_j0 _ _ _ _ ?_)
  rw [if_pos h1]
  by_cases h2 : x = z <;> simp [h1, h2] <;> simp_all
 ·by_cases h2 : x = z
  ·refine Ev.congr (fun k => (if_neg (by simp [h1])).trans (if_pos (decide_eq_true h2))) (kind_j0 _ _ _ _ ?_)
   rw [if_neg h1, if_pos h2]; simp [h1, h2] <;> simp_all
  ·refine Ev.congr (fun k => (if_neg (by simp [h1])).trans (if_neg (by simp [h2]))) (Ev.bind (equal_runs y z hy) (kind_j0 _ _ _ _ ?_))
   rw [if_neg h1, if_neg h2]
   by_cases h3 : y = z <;> simp [h1, h2, h3]
def pc (o a b : List Int) (x : Tr × Tr) : S41 := ⟨kd (sl o x.1.1 x.2.1) (sl a x.1.2.1 x.2.2.1) (sl b x.1.2.2 x.2.2.2), ⟨x.1.1, x.2.1⟩, ⟨x.1.2.1, x.2.2.1⟩, ⟨x.1.2.2, x.2.2.2⟩⟩
theorem pieces_runs {ma mb o a b : List Int} (ho : o.length ≤ 1000000) (ha : a.length ≤ 1000000) {p q s : Nat} {l : List (Tr × Tr)} (h : Cuts ma mb o.length a.length b.length p q s l) : Ev (fun k => diff3_Chunks.pieces k o a b l) (l.map (pc o a b)) := by
 induction h with
 | nil => exact Ev.now _
 | @cons o1 a1 b1 o2 a2 b2 l he ht h1 h2 h3 h4 h5 h6 h7 h8 h9 hc ih =>
  refine Ev.congr (f := fun k => (diff3_kind.f k (sl o o1 o2) (sl a a1 a2) (sl b b1 b2)).bind fun q => (diff3_Chunks.pieces k o a b l).bind fun r => some ((⟨q, ⟨o1, o2⟩, ⟨a1, a2⟩, ⟨b1, b2⟩⟩ : S41) :: r)) (fun k => ?_) (Ev.bind (kind_runs _ _ _ (Nat.le_trans (sl_length _ _ _) ho) (Nat.le_trans (sl_length _ _ _) ha)) (Ev.bind ih (Ev.now _)))
  rw [diff3_Chunks.pieces, diff3_Chunks.piece, if_pos ⟨by simp, by simpa using h1, by simpa using h5, by simp, by simpa using h2, by simpa using h6, by simp, by simpa using h3, by simpa using h7⟩]
  unfold sl
  cases diff3_kind.f k ((o.take (o2 : Int).toNat).drop (o1 : Int).toNat) ((a.take (a2 : Int).toNat).drop (a1 : Int).toNat) ((b.take (b2 : Int).toNat).drop (b1 : Int).toNat) with
  | none => rfl
  | some q =>
   simp only [Option.map_some, Option.bind_some]
   cases diff3_Chunks.pieces k o a b l <;> rfl
theorem bh_zero (m : List Int) (lo : Nat) : Bh m lo 0 0 := fun p _ _ h => by omega
theorem cuts0 (o a b : List Int) : ∃ l, Cuts (held o a 0) (held o b 0) o.length a.length b.length 0 0 0 l ∧ l.length ≤ o.length + a.length + b.length :=
 cuts_are (held_up o a) (held_up o b) _ 0 0 0 (by omega) (Nat.zero_le _) (Nat.zero_le _) (Nat.zero_le _) (bh_zero _ _) (bh_zero _ _)
theorem chunks_runs (o a b : List Int) (ho : o.length ≤ 2000) (ha : a.length ≤ 2000) (hb : b.length ≤ 2000) {l : List (Tr × Tr)} (hc : Cuts (held o a 0) (held o b 0) o.length a.length b.length 0 0 0 l) (hl : l.length ≤ o.length + a.length + b.length) : Ev (fun k => diff3_Chunks.f k o a b) (l.map (pc o a b)) := by
 refine Ev.congr (fun k => if_pos ⟨by omega, by omega, by omega⟩) (Ev.bind (match_runs o a ho ha) (Ev.bind (match_runs o b ho hb) ?_))
 refine Ev.congr (fun k => if_pos ⟨held_length _ _ _, held_length _ _ _⟩) (Ev.bind (cuts_ev hc) ?_)
 exact Ev.congr (fun k => if_pos (by omega)) (pieces_runs (by omega) (by omega) hc)
/-! what comes of both sides -/
theorem at41 {L : List S41} {i : Nat} {y : S41} {r : List S41} (h : L.drop i = y :: r) : i < L.length ∧ rd_T41 L (i : Int) = y ∧ L.drop (i + 1) = r := by
 have h1 : i < L.length := by
  rcases Nat.lt_or_ge i L.length with g | g
  ·exact g
  ·rw [List.drop_eq_nil_of_le g] at h; cases h
 rw [List.drop_eq_getElem_cons h1] at h
 injection h with e1 e2
 refine ⟨h1, ?_, e2⟩
 show L.getD i z41 = y
 rw [List.getD_eq_getElem?_getD, List.getElem?_eq_getElem h1]; exact e1
def cl (l : List S41) : Bool := l.all (fun x => !(x.f0 == 4))
def FitA (a b : List Int) (x : S41) : Prop := 0 ≤ x.f2.f0 ∧ x.f2.f0 ≤ x.f2.f1 ∧ x.f2.f1 ≤ a.length ∧ 0 ≤ x.f3.f0 ∧ x.f3.f0 ≤ x.f3.f1 ∧ x.f3.f1 ≤ b.length
theorem pc_fit {o a b : List Int} {x : Tr × Tr} (h : Fits o.length a.length b.length x) : FitA a b (pc o a b x) := by
 obtain ⟨_, _, _, h1, h2, h3, h4, h5, h6⟩ := h
 exact ⟨h1, h2, h3, h4, h5, h6⟩
theorem awake_runs : Ev (fun k => l07_awake.f k) true := Ev.of (l07_awake.mono) (k := 60) (by decide +kernel)
/-! ### the reference -/
theorem table_runs (a b : List Int) (ha : a.length ≤ 3000) (hb : b.length ≤ 3000) : ∃ t, TabFrom a b 0 t ∧ Ev (fun k => r05_table.f k a b) t := by
 have e3 : wrap64 ((b.length : Int) + 1) = (b.length : Int) + 1 := w64 (by omega) (by omega)
 have e4 : wrap64 ((a.length : Int) + 1) = (a.length : Int) + 1 := w64 (by omega) (by omega)
 have e5 : wrap64 ((a.length : Int) - 1) = (a.length : Int) - 1 := w64 (by omega) (by omega)
 have e6 : wrap64 ((b.length : Int) - 1) = (b.length : Int) - 1 := w64 (by omega) (by omega)
 have outer : ∀ (i : Nat), i ≤ a.length → ∀ t, TabFrom a b i t → (∀ q, q < i → RowFrom a b q b.length (t.getD q [])) → ∃ t', TabFrom a b 0 t' ∧ Ev (fun k => r05_table.l1 k a b t ((i : Int) - 1)) t' := by
  intro i
  induction i with
  | zero =>
   intro _ t ht _
   refine ⟨t, ht, Ev.step (f := fun _ => some t) (fun k => ?_) (Ev.now _)⟩
   simp only [r05_table.l1]
   rw [if_neg (by omega)]
  | succ i ihi =>
   intro hi t ht hz
   have inner : ∀ (j : Nat), j ≤ b.length → ∀ t, TabFrom a b (i + 1) t → (∀ q, q < i → RowFrom a b q b.length (t.getD q [])) → RowFrom a b i j (t.getD i []) → ∃ t', TabFrom a b 0 t' ∧ Ev (fun k => r05_table.l2 k a b t (i : Int) ((j : Int) - 1)) t' := by
    intro j
    induction j with
    | zero =>
     intro _ t ht hz hr
     obtain ⟨t', h1, h2⟩ := ihi (by omega) t (tab_of_row ht hr) hz
     refine ⟨t', h1, Ev.step (f := fun k => r05_table.l1 k a b t ((i : Int) - 1)) (fun k => ?_) h2⟩
     simp only [r05_table.l2]
     rw [if_neg (by omega), w64 (by omega) (by omega)]
    | succ j ihj =>
     intro hj t ht hz hr
     have hrow := ht.2 (i + 1) (Nat.le_refl _) hi
     have hlen := ht.1
     obtain ⟨t', h1, h2⟩ := ihj (by omega) (t.set i ((t.getD i []).set j (T a b i j : Int))) (tab_over ht _) (fun q hq => by rw [getD_set_other (by omega)]; exact hz q hq) (by rw [getD_set_same (by omega)]; exact row_step hr (by omega))
     refine ⟨t', h1, Ev.step (f := fun k => r05_table.l2 k a b (t.set i ((t.getD i []).set j (T a b i j : Int))) (i : Int) ((j : Int) - 1)) (fun k => ?_) h2⟩
     have e1 : ((j + 1 : Nat) : Int) - 1 = (j : Int) := by omega
     have r1 : rd_L3 t ((i + 1 : Nat) : Int) = t.getD (i + 1) [] := rfl
     have r0 : rd_L3 t (i : Int) = t.getD i [] := rfl
     have hT := T_le a b (i + 1) (j + 1)
     simp only [r05_table.l2]
     rw [e1, w64s i (by omega), w64s j (by omega), w64 (x := (j : Int) - 1) (by omega) (by omega), r1, r0, if_pos (by omega), if_pos (by omega), if_pos (by omega), if_pos (by omega), if_pos (by omega)]
     by_cases he : a.getD i 0 = b.getD j 0
     ·rw [if_pos (show rd a (i : Int) = rd b (j : Int) from he), if_pos (by omega), if_pos (by omega), if_pos (by omega), if_pos (by omega), if_pos (by rw [hrow.1]; omega), if_pos (by rw [hr.1]; omega)]
      simp only [rd_nat, Int.toNat_natCast]
      rw [hrow.2 (j + 1) (by omega) (by omega), w64 (by omega) (by omega), T_same (by omega) (by omega) he]
      rfl
     ·rw [if_neg (show ¬ rd a (i : Int) = rd b (j : Int) from he), if_pos (by omega), if_pos (by omega), if_pos (by omega), if_pos (by rw [hrow.1]; omega), if_pos (by omega), if_pos (by rw [hr.1]; omega), if_pos (by rw [hr.1]; omega)]
      simp only [rd_nat, Int.toNat_natCast]
      rw [hrow.2 j (by omega) (by omega), hr.2 (j + 1) (by omega) (by omega), mx_nat, T_other (by omega) (by omega) he]
   obtain ⟨t', h1, h2⟩ := inner b.length (Nat.le_refl _) t ht (fun q hq => hz q (by omega)) (hz i (by omega))
   refine ⟨t', h1, Ev.step (f := fun k => r05_table.l2 k a b t (i : Int) ((b.length : Int) - 1)) (fun k => ?_) h2⟩
   have e1 : ((i + 1 : Nat) : Int) - 1 = (i : Int) := by omega
   simp only [r05_table.l1]
   rw [e1, e6, if_pos (by omega)]
 have fill : ∀ (d i : Nat) (t : List (List Int)), a.length + 1 - i = d → i ≤ a.length + 1 → t.length = a.length + 1 → (∀ q, q < i → t.getD q [] = List.replicate (b.length + 1) 0) → ∃ t', TabFrom a b 0 t' ∧ Ev (fun k => r05_table.l0 k a b t (i : Int)) t' := by
  intro d
  induction d with
  | zero =>
   intro i t hd hi hl hz
   obtain rfl : i = a.length + 1 := by clear e3 e4 e5 e6; omega
   obtain ⟨t', h1, h2⟩ := outer a.length (Nat.le_refl _) t ⟨hl, fun j h1 h2 => by rw [hz j (by clear e3 e4 e5 e6; omega)]; exact row_zero a b _ rfl h1⟩ (fun q hq => by rw [hz q (by clear e3 e4 e5 e6; omega)]; exact row_last a b _ rfl q)
   refine ⟨t', h1, Ev.step (f := fun k => r05_table.l1 k a b t ((a.length : Int) - 1)) (fun k => ?_) h2⟩
   simp only [r05_table.l0]
   rw [if_neg (by clear e3 e4 e5 e6; omega), e5]
  | succ d ih =>
   intro i t hd hi hl hz
   obtain ⟨t', h1, h2⟩ := ih (i + 1) (t.set i (List.replicate (b.length + 1) 0)) (by clear e3 e4 e5 e6; omega) (by clear e3 e4 e5 e6; omega) (by rw [List.length_set]; exact hl) (fun q hq => by
    by_cases e : i = q
    ·subst e; exact getD_set_same (by clear e3 e4 e5 e6; omega) _ _
    ·rw [getD_set_other e]; exact hz q (by clear e3 e4 e5 e6; omega))
   refine ⟨t', h1, Ev.step (f := fun k => r05_table.l0 k a b (t.set i (List.replicate (b.length + 1) 0)) ((i + 1 : Nat) : Int)) (fun k => ?_) h2⟩
   simp only [r05_table.l0]
   rw [e3, if_pos (by clear e3 e4 e5 e6; omega), if_pos (by clear e3 e4 e5 e6; omega), if_pos (by clear e3 e4 e5 e6; omega), if_pos (by clear e3 e4 e5 e6; omega), if_pos (by clear e3 e4 e5 e6; omega), w64s i (by clear e3 e4 e5 e6; omega)]
   rfl
 obtain ⟨t', h1, h2⟩ := fill _ 0 (List.replicate (a.length + 1) []) rfl (Nat.zero_le _) (by simp) (fun q hq => by omega)
 refine ⟨t', h1, Ev.congr (fun k => ?_) h2⟩
 simp only [r05_table.f]
 rw [e4, if_pos (by clear e3 e4 e5 e6; omega), if_pos (by clear e3 e4 e5 e6; omega)]
 rfl
theorem ref_loop (a b : List Int) (ha : a.length ≤ 3000) (hb : b.length ≤ 3000) (t : List (List Int)) (ht : TabFrom a b 0 t) : ∀ (d i j : Nat) (pre : List Int), (a.length - i) + (b.length - j) = d → i ≤ a.length → j ≤ b.length → pre.length = i →
  Ev (fun k => r05_Match.l3 k a b (pre ++ List.replicate (a.length - i) (-1)) t (i : Int) (j : Int)) (pre ++ held (a.drop i) (b.drop j) j) := by
 intro d
 induction d using Nat.strongRecOn with
 | _ d ih =>
 intro i j pre hd hi hj hp
 by_cases h1 : i < a.length
 ·by_cases h2 : j < b.length
  ·have hn : a.length - i = (a.length - (i + 1)) + 1 := (Nat.succ_pred_eq_of_pos (Nat.sub_pos_of_lt h1)).symm
   have hlen := ht.1
   have r1 := ht.2 (i + 1) (Nat.zero_le _) (by omega)
   have r0 := ht.2 i (Nat.zero_le _) (by omega)
   have q1 : rd_L3 t ((i + 1 : Nat) : Int) = t.getD (i + 1) [] := rfl
   have q0 : rd_L3 t (i : Int) = t.getD i [] := rfl
   have hol : (pre ++ List.replicate (a.length - i) (-1)).length = a.length := by rw [List.length_append, List.length_replicate]; omega
   refine Ev.step (f := fun k => r05_Match.j6 k a b (pre ++ List.replicate (a.length - i) (-1)) t (i : Int) (j : Int) true) (fun k => ?_) ?_
   ·simp only [r05_Match.l3]
    rw [if_pos (by omega), decide_eq_true (by omega)]
   by_cases he : a.getD i 0 = b.getD j 0
   ·refine Ev.step (f := fun k => r05_Match.l3 k a b ((pre ++ [(j : Int)]) ++ List.replicate (a.length - (i + 1)) (-1)) t ((i + 1 : Nat) : Int) ((j + 1 : Nat) : Int)) (fun k => ?_) ?_
    ·simp only [r05_Match.j6]
     rw [if_pos trivial, if_pos (by omega), if_pos (by omega), if_pos (by omega), if_pos (by omega), if_pos (show rd a (i : Int) = rd b (j : Int) from he), if_pos (by rw [hol]; omega), w64s i (by omega), w64s j (by omega)]
     rw [Int.toNat_natCast, hn, ← hp, set_mid, hp]
    ·have := ih ((a.length - (i + 1)) + (b.length - (j + 1))) (by omega) (i + 1) (j + 1) (pre ++ [(j : Int)]) rfl (by omega) (by omega) (by rw [List.length_append, hp]; rfl)
     rw [drop_get h1, drop_get h2, he, held_same]
     simpa using this
   ·by_cases hg : T a b (i + 1) j ≥ T a b i (j + 1)
    ·refine Ev.step (f := fun k => r05_Match.l3 k a b ((pre ++ [-1]) ++ List.replicate (a.length - (i + 1)) (-1)) t ((i + 1 : Nat) : Int) (j : Int)) (fun k => ?_) ?_
     ·simp only [r05_Match.j6]
      rw [if_pos trivial, if_pos (by omega), if_pos (by omega), if_pos (by omega), if_pos (by omega), if_neg (show ¬ rd a (i : Int) = rd b (j : Int) from he), w64s i (by omega), w64s j (by omega), q1, q0, if_pos (by omega), if_pos (by omega), if_pos (by rw [r1.1]; omega), if_pos (by omega), if_pos (by omega), if_pos (by rw [r0.1]; omega), if_pos (by rw [rd_nat, rd_nat, r1.2 j (by omega) (by omega), r0.2 (j + 1) (by omega) (by omega)]; omega)]
      rw [hn, List.replicate_succ, List.append_assoc]
      rfl
     ·have := ih ((a.length - (i + 1)) + (b.length - j)) (by omega) (i + 1) j (pre ++ [-1]) rfl (by omega) (by omega) (by rw [List.length_append, hp]; rfl)
      rw [drop_get h1, drop_get h2, held_skip he _ _ _ (by rw [← drop_get h1, ← drop_get h2]; exact hg), ← drop_get h2]
      simpa using this
    ·refine Ev.step (f := fun k => r05_Match.l3 k a b (pre ++ List.replicate (a.length - i) (-1)) t (i : Int) ((j + 1 : Nat) : Int)) (fun k => ?_) ?_
     ·simp only [r05_Match.j6]
      rw [if_pos trivial, if_pos (by omega), if_pos (by omega), if_pos (by omega), if_pos (by omega), if_neg (show ¬ rd a (i : Int) = rd b (j : Int) from he), w64s i (by omega), w64s j (by omega), q1, q0, if_pos (by omega), if_pos (by omega), if_pos (by rw [r1.1]; omega), if_pos (by omega), if_pos (by omega), if_pos (by rw [r0.1]; omega), if_neg (by rw [rd_nat, rd_nat, r1.2 j (by omega) (by omega), r0.2 (j + 1) (by omega) (by omega)]; omega)]
     ·have := ih ((a.length - i) + (b.length - (j + 1))) (by omega) i (j + 1) pre rfl (by omega) (by omega) hp
      rw [drop_get h1, drop_get h2, held_turn he _ _ _ (by rw [← drop_get h1, ← drop_get h2]; exact hg), ← drop_get h1]
      exact this
  ·refine Ev.step (f := fun k => r05_Match.j6 k a b (pre ++ List.replicate (a.length - i) (-1)) t (i : Int) (j : Int) false) (fun k => ?_) (Ev.step (f := fun _ => some (pre ++ List.replicate (a.length - i) (-1))) (fun k => ?_) ?_)
   ·simp only [r05_Match.l3]
    rw [if_pos (by omega), decide_eq_false (by omega)]
   ·simp only [r05_Match.j6]
    rw [if_neg (by decide)]
   ·rw [List.drop_eq_nil_of_le (by omega : b.length ≤ j), held_nil_r, List.length_drop]
    exact Ev.now _
 ·refine Ev.step (f := fun k => r05_Match.j6 k a b (pre ++ List.replicate (a.length - i) (-1)) t (i : Int) (j : Int) false) (fun k => ?_) (Ev.step (f := fun _ => some (pre ++ List.replicate (a.length - i) (-1))) (fun k => ?_) ?_)
  ·simp only [r05_Match.l3]
   rw [if_neg (by omega)]
  ·simp only [r05_Match.j6]
   rw [if_neg (by decide)]
  ·rw [List.drop_eq_nil_of_le (by omega : a.length ≤ i), show a.length - i = 0 by omega, held]
   exact Ev.now _
theorem ref_fill (a b : List Int) (ha : a.length ≤ 3000) (r : List Int) (big : Bool) (hbig : big = (decide (2000 < a.length) || decide (2000 < b.length))) (h : Ev (fun k => r05_Match.j1 k a b (List.replicate a.length (-1)) big) r) : ∀ (d i : Nat), a.length - i = d → i ≤ a.length → Ev (fun k => r05_Match.l0 k a b (List.replicate i (-1)) (i : Int)) r := by
 intro d
 induction d with
 | zero =>
  intro i hd hi
  obtain rfl : i = a.length := by omega
  refine Ev.step (f := fun k => r05_Match.j1 k a b (List.replicate a.length (-1)) big) (fun k => ?_) h
  simp only [r05_Match.l0]
  rw [if_neg (by omega)]
  by_cases h1 : (a.length : Int) > 2000
  ·rw [if_pos h1, hbig, decide_eq_true (show 2000 < a.length by omega), Bool.true_or]
  ·rw [if_neg h1, hbig, decide_eq_false (show ¬ 2000 < a.length by omega), Bool.false_or, show decide ((b.length : Int) > 2000) = decide (2000 < b.length) from decide_eq_decide.2 (by omega)]
 | succ d ih =>
  intro i hd hi
  refine Ev.step (f := fun k => r05_Match.l0 k a b (List.replicate (i + 1) (-1)) ((i + 1 : Nat) : Int)) (fun k => ?_) (ih (i + 1) (by omega) (by omega))
  simp only [r05_Match.l0]
  rw [if_pos (by omega), if_pos (by rw [List.length_replicate]; omega), w64s i (by omega), ← List.replicate_succ']
theorem ref_runs (a b : List Int) (ha : a.length ≤ 2000) (hb : b.length ≤ 2000) : Ev (fun k => r05_Match.f k a b) (held a b 0) := by
 obtain ⟨t, ht, he⟩ := table_runs a b (by omega) (by omega)
 have := ref_fill a b (by omega) (held a b 0) false (by rw [decide_eq_false (by omega), decide_eq_false (by omega)]; rfl) (Ev.step (f := fun k => (r05_table.f k a b).bind fun t261 => r05_Match.l3 k a b (List.replicate a.length (-1)) t261 0 0) (fun k => by simp only [r05_Match.j1]; rw [if_neg (by decide)]) (Ev.bind he (by
  have := ref_loop a b (by omega) (by omega) t ht _ 0 0 [] rfl (by omega) (by omega) rfl
  simpa using this))) _ 0 rfl (Nat.zero_le _)
 exact this
/-! the document's chunks are the same -/
theorem refkind_runs (x y z : List Int) (hx : x.length ≤ 1000000) (hy : y.length ≤ 1000000) : Ev (fun k => r07_kind.f k x y z) (kd x y z) := by
 unfold r07_kind.f
 refine Ev.bind (same5_runs x y hx) (Ev.bind (same5_runs x z hx) ?_)
 unfold kd
 by_cases h1 : x = y
 ·by_cases h2 : x = z
  ·exact Ev.congr (f := fun k => r07_kind.j0 k y z (!(decide (x = y))) (!(decide (x = z))) (decide (x = z))) (fun k => if_pos (decide_eq_true h1)) (Ev.step (f := fun _ => some 0) (fun k => by simp only [r07_kind.j0]; rw [if_pos (decide_eq_true h2)]) (by rw [if_pos h1, if_pos h2]; exact Ev.now _))
  ·exact Ev.congr (f := fun k => r07_kind.j0 k y z (!(decide (x = y))) (!(decide (x = z))) (decide (x = z))) (fun k => if_pos (decide_eq_true h1)) (Ev.step (f := fun _ => some 2) (fun k => by simp only [r07_kind.j0]; rw [if_neg (by simp [h2]), if_neg (by simp [h1])]) (by rw [if_pos h1, if_neg h2]; exact Ev.now _))
 ·refine Ev.congr (f := fun k => r07_kind.j0 k y z (!(decide (x = y))) (!(decide (x = z))) false) (fun k => if_neg (by simp [h1])) ?_
  by_cases h2 : x = z
  ·exact Ev.step (f := fun _ => some 1) (fun k => by simp only [r07_kind.j0]; rw [if_neg (by decide), if_pos (by simp [h1]), if_neg (by simp [h2])]) (by rw [if_neg h1, if_pos h2]; exact Ev.now _)
  ·refine Ev.step (f := fun k => (r05_Same.f k y z).bind fun t => if t = true then some 3 else some 4) (fun k => by simp only [r07_kind.j0]; rw [if_neg (by decide), if_pos (by simp [h1]), if_pos (by simp [h2])]) (Ev.bind (same5_runs y z hy) ?_)
   rw [if_neg h1, if_neg h2]
   by_cases h3 : y = z
   ·exact Ev.congr (f := fun _ => some 3) (fun k => if_pos (decide_eq_true h3)) (by rw [if_pos h3]; exact Ev.now _)
   ·exact Ev.congr (f := fun _ => some 4) (fun k => if_neg (by simp [h3])) (by rw [if_neg h3]; exact Ev.now _)
theorem ref_l1 (o a b ma mb : List Int) (out : List S41) (hs : o.length ≤ 2000) (hma : ma.length = o.length) (hmb : mb.length = o.length) (p q s : Nat) (hq : q ≤ 2000) (hss : s ≤ 2000) (r : List S41) : ∀ (d n : Nat), p + n + d = o.length →
  Ev (fun k => r07_Chunks.j3 k o a b ma mb out (p : Int) (q : Int) (s : Int) ((stab ma mb p q s o.length d n : Nat) : Int)) r → Ev (fun k => r07_Chunks.l1 k o a b ma mb out (p : Int) (q : Int) (s : Int) (n : Int)) r := by
 intro d
 induction d with
 | zero =>
  intro n hd h
  rw [stab] at h
  refine Ev.step (fun k => ?_) h
  simp only [r07_Chunks.l1]
  rw [wa (by omega), if_neg (by omega)]
 | succ d ih =>
  intro n hd h
  rw [stab] at h
  by_cases h1 : ma.getD (p + n) 0 = ((q + n : Nat) : Int)
  ·by_cases h2 : mb.getD (p + n) 0 = ((s + n : Nat) : Int)
   ·rw [if_pos ⟨h1, h2⟩] at h
    refine Ev.step (fun k => ?_) (ih (n + 1) (by omega) h)
    simp only [r07_Chunks.l1]
    rw [wa (by omega), wa (by omega), wa (by omega), if_pos (by omega), if_pos (by omega), if_pos (by omega), rd_nat, rd_nat, if_pos h1, if_pos (by omega), if_pos h2, wi n (by omega)]
   ·rw [if_neg (fun h => h2 h.2)] at h
    refine Ev.step (fun k => ?_) h
    simp only [r07_Chunks.l1]
    rw [wa (by omega), wa (by omega), wa (by omega), if_pos (by omega), if_pos (by omega), if_pos (by omega), rd_nat, rd_nat, if_pos h1, if_pos (by omega), if_neg h2]
  ·rw [if_neg (fun h => h1 h.1)] at h
   refine Ev.step (fun k => ?_) h
   simp only [r07_Chunks.l1]
   rw [wa (by omega), wa (by omega), if_pos (by omega), if_pos (by omega), if_pos (by omega), rd_nat, if_neg h1]
theorem ref_l2 (o a b ma mb : List Int) (out : List S41) (ho : o.length ≤ 2000) (ha : a.length ≤ 2000) (hma : ma.length = o.length) (hmb : mb.length = o.length) (hout : out.length ≤ 1000000) (p q s o' a' b' : Nat) (h1 : p ≤ o') (h2 : q ≤ a') (h3 : s ≤ b') (h5 : o' ≤ o.length) (h6 : a' ≤ a.length) (h7 : b' ≤ b.length)
  (hpq : p ≤ o.length) (r : List S41) (h : Ev (fun k => r07_Chunks.l0 k o a b ma mb (out ++ [pc o a b (((p : Int), (q : Int), (s : Int)), ((o' : Int), (a' : Int), (b' : Int)))]) (o' : Int) (a' : Int) (b' : Int)) r) : ∀ (d e : Nat), e + d = o.length → p ≤ e → nxt ma mb o.length a.length b.length d e = ((o' : Int), (a' : Int), (b' : Int)) →
  Ev (fun k => r07_Chunks.l2 k o a b ma mb out (p : Int) (q : Int) (s : Int) (e : Int)) r := by
 have last : Ev (fun k => (r07_kind.f k (sl o p o') (sl a q a') (sl b s b')).bind fun t => r07_Chunks.l0 k o a b ma mb (out ++ [(⟨t, ⟨p, o'⟩, ⟨q, a'⟩, ⟨s, b'⟩⟩ : S41)]) (o' : Int) (a' : Int) (b' : Int)) r :=
  Ev.bind (refkind_runs _ _ _ (Nat.le_trans (sl_length _ _ _) (by omega)) (Nat.le_trans (sl_length _ _ _) (by omega))) h
 intro d
 induction d with
 | zero =>
  intro e he hpe hn
  rw [nxt] at hn
  injection hn with e1 hn
  injection hn with e2 e3
  refine Ev.step (fun k => ?_) last
  obtain rfl : o' = e := by omega
  simp only [r07_Chunks.l2]
  rw [if_neg (by omega), if_pos (by omega), if_pos (by omega), if_pos (by omega), if_pos (by omega), if_pos (by omega), if_pos (by omega), if_pos (by omega), if_pos (by omega), if_pos (by omega), e2, e3]
  unfold sl
  congr 1
  funext t
  rw [if_pos (by omega)]
 | succ d ih =>
  intro e he hpe hn
  rw [nxt] at hn
  by_cases c1 : 0 ≤ ma.getD e 0
  ·by_cases c2 : 0 ≤ mb.getD e 0
   ·rw [if_pos ⟨c1, c2⟩] at hn
    injection hn with e1 hn
    injection hn with e2 e3
    refine Ev.step (fun k => ?_) last
    obtain rfl : o' = e := by omega
    simp only [r07_Chunks.l2]
    rw [if_pos (by omega), if_pos (by omega), if_pos (by omega), rd_nat, rd_nat, if_neg (by omega), if_pos (by omega), if_neg (by omega), if_pos (by omega), if_pos (by omega), if_pos (by omega), if_pos (by omega), if_pos (by omega), if_pos (by omega), if_pos (by omega), if_pos (by omega), if_pos (by omega), e2, e3]
    unfold sl
    congr 1
    funext t
    rw [if_pos (by omega)]
   ·rw [if_neg (fun h => c2 h.2)] at hn
    refine Ev.step (fun k => ?_) (ih (e + 1) (by omega) (by omega) hn)
    simp only [r07_Chunks.l2]
    rw [if_pos (by omega), if_pos (by omega), if_pos (by omega), rd_nat, rd_nat, if_neg (by omega), if_pos (by omega), if_pos (by omega), wi e (by omega)]
  ·rw [if_neg (fun h => c1 h.1)] at hn
   refine Ev.step (fun k => ?_) (ih (e + 1) (by omega) (by omega) hn)
   simp only [r07_Chunks.l2]
   rw [if_pos (by omega), if_pos (by omega), if_pos (by omega), rd_nat, if_pos (by omega), wi e (by omega)]
theorem ref_l0 (o a b ma mb : List Int) (ho : o.length ≤ 2000) (ha : a.length ≤ 2000) (hb : b.length ≤ 2000) (hma : ma.length = o.length) (hmb : mb.length = o.length) {p q s : Nat} {l : List (Tr × Tr)} (hc : Cuts ma mb o.length a.length b.length p q s l) : p ≤ o.length → q ≤ a.length → s ≤ b.length → ∀ out : List S41, out.length + l.length ≤ 1000000 →
  Ev (fun k => r07_Chunks.l0 k o a b ma mb out (p : Int) (q : Int) (s : Int)) (out ++ l.map (pc o a b)) := by
 induction hc with
 | nil =>
  intro _ _ _ out _
  refine Ev.step (f := fun k => r07_Chunks.j1 k o a b ma mb out (o.length : Int) (a.length : Int) (b.length : Int) false) (fun k => ?_) (Ev.step (f := fun _ => some out) (fun k => ?_) (by simpa using Ev.now out))
  ·simp only [r07_Chunks.l0]
   rw [if_neg (by omega), if_neg (by omega), decide_eq_false (by omega)]
  ·simp only [r07_Chunks.j1]
   rw [if_neg (by decide)]
 | @cons p q s o' a' b' l he ht h1 h2 h3 h4 h5 h6 h7 h8 h9 hc ih =>
  intro hp hq hs out hout
  simp only [List.length_cons] at hout
  have hn := ih h5 h6 h7 (out ++ [pc o a b (((p : Int), (q : Int), (s : Int)), ((o' : Int), (a' : Int), (b' : Int)))]) (by simp only [List.length_append, List.length_cons, List.length_nil]; omega)
  rw [List.append_assoc] at hn
  have hin : Ev (fun k => r07_Chunks.l1 k o a b ma mb out (p : Int) (q : Int) (s : Int) ((0 : Nat) : Int)) (out ++ (pc o a b (((p : Int), (q : Int), (s : Int)), ((o' : Int), (a' : Int), (b' : Int))) :: l.map (pc o a b))) := by
   refine ref_l1 o a b ma mb out ho hma hmb p q s (by omega) (by omega) _ (o.length - p) 0 (by omega) ?_
   obtain ⟨s1, s2, s3, s4⟩ := stab_is ma mb p q s o.length (o.length - p) 0
   unfold diff3_Chunks.to at ht
   obtain ⟨N, hN⟩ : ∃ N, stab ma mb p q s o.length (o.length - p) 0 = N := ⟨_, rfl⟩
   rw [hN] at ht s1 s2 ⊢
   by_cases h0 : 0 < N
   ·rw [if_pos h0] at ht
    injection ht with e1 ht
    injection ht with e2 e3
    obtain rfl : p + N = o' := by omega
    obtain rfl : q + N = a' := by omega
    obtain rfl : s + N = b' := by omega
    refine Ev.step (f := fun k => (r07_kind.f k (sl o p ((p + N : Nat) : Int)) (sl a q ((q + N : Nat) : Int)) (sl b s ((s + N : Nat) : Int))).bind fun t => r07_Chunks.l0 k o a b ma mb (out ++ [(⟨t, ⟨p, ((p + N : Nat) : Int)⟩, ⟨q, ((q + N : Nat) : Int)⟩, ⟨s, ((s + N : Nat) : Int)⟩⟩ : S41)]) ((p + N : Nat) : Int) ((q + N : Nat) : Int) ((s + N : Nat) : Int)) (fun k => ?_)
     (Ev.bind (refkind_runs _ _ _ (Nat.le_trans (sl_length _ _ _) (by omega)) (Nat.le_trans (sl_length _ _ _) (by omega))) hn)
    simp only [r07_Chunks.j3]
    rw [if_neg (by omega), wa (by omega), wa (by omega), wa (by omega), if_pos (by omega), if_pos (by omega), if_pos (by omega), if_pos (by omega), if_pos (by omega), if_pos (by omega), if_pos (by omega), if_pos (by omega), if_pos (by omega)]
    unfold sl
    congr 1
    funext t
    rw [if_pos (by omega)]
   ·rw [if_neg h0] at ht
    obtain rfl : N = 0 := by omega
    refine Ev.step (f := fun k => r07_Chunks.l2 k o a b ma mb out (p : Int) (q : Int) (s : Int) (p : Int)) (fun k => ?_) (ref_l2 o a b ma mb out ho ha hma hmb (by omega) p q s o' a' b' h1 h2 h3 h5 h6 h7 hp _ hn (o.length - p) p (by omega) (Nat.le_refl _) ht)
    simp only [r07_Chunks.j3]
    rw [if_pos (by omega), wa (by omega)]
    rfl
  have hj : Ev (fun k => r07_Chunks.j1 k o a b ma mb out (p : Int) (q : Int) (s : Int) true) (out ++ (pc o a b (((p : Int), (q : Int), (s : Int)), ((o' : Int), (a' : Int), (b' : Int))) :: l.map (pc o a b))) :=
   Ev.step (fun k => by simp only [r07_Chunks.j1]; rw [if_pos trivial]; rfl) hin
  rw [List.map_cons]
  by_cases g1 : p < o.length
  ·exact Ev.step (fun k => by simp only [r07_Chunks.l0]; rw [if_pos (by omega)]) hj
  ·by_cases g2 : q < a.length
   ·exact Ev.step (fun k => by simp only [r07_Chunks.l0]; rw [if_neg (by omega), if_pos (by omega)]) hj
   ·exact Ev.step (fun k => by simp only [r07_Chunks.l0]; rw [if_neg (by omega), if_neg (by omega), decide_eq_true (by omega)]) hj
theorem refchunks_runs (o a b : List Int) (ho : o.length ≤ 2000) (ha : a.length ≤ 2000) (hb : b.length ≤ 2000) {l : List (Tr × Tr)} (hc : Cuts (held o a 0) (held o b 0) o.length a.length b.length 0 0 0 l) (hl : l.length ≤ o.length + a.length + b.length) : Ev (fun k => r07_Chunks.f k o a b) (l.map (pc o a b)) := by
 unfold r07_Chunks.f
 refine Ev.bind (ref_runs o a ho ha) (Ev.bind (ref_runs o b ho hb) ?_)
 have := ref_l0 o a b _ _ ho ha hb (held_length o a 0) (held_length o b 0) hc (Nat.zero_le _) (Nat.zero_le _) (Nat.zero_le _) [] (by simp only [List.length_nil]; omega)
 rw [List.nil_append] at this
 exact this
theorem refclean_loop (L : List S41) (hL : L.length ≤ 1000000) : ∀ (l : List S41) (i : Nat), L.drop i = l → i ≤ L.length → Ev (fun k => r07_Clean.l0 k L (i : Int)) (cl l)
 | [], i, h, hi => by
  have : L.length ≤ i := by have := congrArg List.length h; rw [List.length_drop, List.length_nil] at this; omega
  exact Ev.step (f := fun _ => some true) (fun k => by simp only [r07_Clean.l0]; rw [if_neg (by omega)]) (Ev.now _)
 | y :: r, i, h, hi => by
  obtain ⟨h1, h2, h3⟩ := at41 h
  by_cases h4 : y.f0 = 4
  ·refine Ev.step (f := fun _ => some false) (fun k => by simp only [r07_Clean.l0]; rw [if_pos (by omega), if_pos (by omega), h2, if_pos h4]) ?_
   have : cl (y :: r) = false := by simp [cl, h4]
   rw [this]; exact Ev.now _
  ·have : cl (y :: r) = cl r := by simp [cl, h4]
   rw [this]
   exact Ev.step (fun k => by simp only [r07_Clean.l0]; rw [if_pos (by omega), if_pos (by omega), h2, if_neg h4, wi i (by omega)]) (refclean_loop L hL r (i + 1) h3 (by omega))
theorem refclean_runs (L : List S41) (hL : L.length ≤ 1000000) : Ev (fun k => r07_Clean.f k L) (cl L) := refclean_loop L hL L 0 rfl (Nat.zero_le _)
theorem refsame_loop (L : List S41) (hL : L.length ≤ 1000000) : ∀ (l : List S41) (i : Nat), L.drop i = l → i ≤ L.length → Ev (fun k => r07_Same.l0 k L L (i : Int)) true
 | [], i, h, hi => by
  have : L.length ≤ i := by have := congrArg List.length h; rw [List.length_drop, List.length_nil] at this; omega
  exact Ev.step (f := fun _ => some true) (fun k => by simp only [r07_Same.l0]; rw [if_neg (by omega)]) (Ev.now _)
 | y :: r, i, h, hi => by
  obtain ⟨h1, h2, h3⟩ := at41 h
  exact Ev.step (fun k => by simp only [r07_Same.l0]; rw [if_pos (by omega), if_pos (by omega), if_pos (by omega), if_neg (by simp), wi i (by omega)]) (refsame_loop L hL r (i + 1) h3 (by omega))
theorem refsame_runs (L : List S41) (hL : L.length ≤ 1000000) : Ev (fun k => r07_Same.f k L L) true :=
 Ev.congr (fun k => if_pos rfl) (refsame_loop L hL L 0 rfl (Nat.zero_le _))
/-! ### texts as numbers: what both come to -/
def grow (l : List ByteArray) (s : ByteArray) : List ByteArray := if lcs_Numbers.has l s = true then l else l ++ [s]
def seenBy : List ByteArray → List ByteArray → List ByteArray
 | [], l => l
 | s :: r, l => seenBy r (grow l s)
def nums : List ByteArray → List ByteArray → List Int
 | [], _ => []
 | s :: r, l => (lcs_Numbers.ix l s : Int) :: nums r (grow l s)
def numsAll : List (List ByteArray) → List ByteArray → List (List Int)
 | [], _ => []
 | r :: rs, l => nums r l :: numsAll rs (seenBy r l)
theorem grow_length (l : List ByteArray) (s : ByteArray) : (grow l s).length ≤ l.length + 1 := by unfold grow; split <;> simp
theorem seenBy_length : ∀ (r l : List ByteArray), (seenBy r l).length ≤ l.length + r.length
 | [], l => by simp [seenBy]
 | s :: r, l => by
  have h1 := seenBy_length r (grow l s)
  have h2 := grow_length l s
  rw [seenBy, List.length_cons]; omega
theorem nums_length : ∀ (r l : List ByteArray), (nums r l).length = r.length
 | [], l => rfl
 | s :: r, l => by rw [nums, List.length_cons, List.length_cons, nums_length r]
theorem ix_le (l : List ByteArray) (s : ByteArray) : lcs_Numbers.ix l s ≤ l.length := List.findIdx_le_length
theorem has_iff (l : List ByteArray) (s : ByteArray) : lcs_Numbers.has l s = true ↔ lcs_Numbers.ix l s < l.length := by
 unfold lcs_Numbers.has lcs_Numbers.ix
 rw [List.findIdx_lt_length, List.any_eq_true]
theorem ix_none {l : List ByteArray} {s : ByteArray} (h : ¬ lcs_Numbers.has l s = true) : lcs_Numbers.ix l s = l.length := by
 have h1 := ix_le l s
 rw [has_iff] at h; omega
theorem drop_getS {xs : List ByteArray} {i : Nat} (h : i < xs.length) : xs.drop i = xs.getD i ByteArray.empty :: xs.drop (i + 1) := by
 rw [List.drop_eq_getElem_cons h, List.getD_eq_getElem?_getD, List.getElem?_eq_getElem h]; rfl
theorem drop_getL {α : Type} {xs : List (List α)} {i : Nat} (h : i < xs.length) : xs.drop i = xs.getD i [] :: xs.drop (i + 1) := by
 rw [List.drop_eq_getElem_cons h, List.getD_eq_getElem?_getD, List.getElem?_eq_getElem h]; rfl
theorem getD_memS {α : Type} {xs : List α} {i : Nat} (h : i < xs.length) (d : α) : xs.getD i d ∈ xs := by
 rw [List.getD_eq_getElem?_getD, List.getElem?_eq_getElem h]; exact List.getElem_mem h
/-- rows that are short enough -/
def Few (rows : List (List ByteArray)) : Prop := rows.length ≤ 1000 ∧ ∀ r ∈ rows, r.length ≤ 1000 ∧ ∀ s ∈ r, s.size ≤ 140737488355328
theorem numbers_row {rows : List (List ByteArray)} (hf : Few rows) {i : Nat} (hi : i < rows.length) (out : List (List Int)) (hout : out.length = i) (res : List (List Int)) :
  ∀ (d j : Nat) (seen : List ByteArray) (l : List Int), (rows.getD i []).length - j = d → j ≤ (rows.getD i []).length → seen.length ≤ i * 1000 + j → l.length = j →
   Ev (fun k => lcs_Numbers.l0 k rows (seenBy ((rows.getD i []).drop j) seen) (out ++ [l ++ nums ((rows.getD i []).drop j) seen]) ((i + 1 : Nat) : Int)) res →
   Ev (fun k => lcs_Numbers.l1 k rows seen out (i : Int) l (j : Int)) res := by
 obtain ⟨hr, hs⟩ := hf.2 _ (getD_memS hi [])
 have hn := hf.1
 intro d
 induction d with
 | zero =>
  intro j seen l hd hj hseen hl h
  have e0 : (rows.getD i []).drop j = [] := List.drop_eq_nil_of_le (by omega)
  rw [e0, seenBy, nums, List.append_nil] at h
  refine Ev.step (fun k => ?_) h
  simp only [lcs_Numbers.l1]
  rw [if_neg (show ¬ (j : Int) < ((rd_L9 rows (i : Int)).length : Int) from (show ¬ (j : Int) < ((rows.getD i []).length : Int) by omega)), if_pos (by omega), w64s i (by omega)]
 | succ d ih =>
  intro j seen l hd hj hseen hl h
  have hj' : j < (rows.getD i []).length := by omega
  rw [drop_getS hj', seenBy, nums] at h
  have hz := hs _ (getD_memS hj' ByteArray.empty)
  refine Ev.step (f := fun k => lcs_Numbers.l1 k rows (grow seen ((rows.getD i []).getD j ByteArray.empty)) out (i : Int) (l ++ [(lcs_Numbers.ix seen ((rows.getD i []).getD j ByteArray.empty) : Int)]) ((j + 1 : Nat) : Int)) (fun k => ?_)
   (ih (j + 1) _ _ (by omega) (by omega) (Nat.le_trans (grow_length _ _) (by omega)) (by simp [hl]) (by rw [List.append_assoc]; exact h))
  simp only [lcs_Numbers.l1]
  rw [if_pos (show (j : Int) < ((rd_L9 rows (i : Int)).length : Int) from (show (j : Int) < ((rows.getD i []).length : Int) by omega)), if_pos (by omega), if_pos (show (rdOf ByteArray.empty (rd_L9 rows (i : Int)) (j : Int)).size ≤ 140737488355328 from hz), if_pos (by omega), if_pos (by omega), w64s j (by omega)]
  show (if lcs_Numbers.has seen ((rows.getD i []).getD j ByteArray.empty) = true then _ else _) = _
  by_cases hh : lcs_Numbers.has seen ((rows.getD i []).getD j ByteArray.empty) = true
  ·rw [if_pos hh, grow, if_pos hh]; rfl
  ·rw [if_neg hh, grow, if_neg hh, ix_none hh]; rfl
theorem numbers_rows {rows : List (List ByteArray)} (hf : Few rows) : ∀ (d i : Nat) (seen : List ByteArray) (out : List (List Int)), rows.length - i = d → i ≤ rows.length → seen.length ≤ i * 1000 → out.length = i →
  Ev (fun k => lcs_Numbers.l0 k rows seen out (i : Int)) (out ++ numsAll (rows.drop i) seen) := by
 have hn := hf.1
 intro d
 induction d with
 | zero =>
  intro i seen out hd hi hseen hout
  rw [List.drop_eq_nil_of_le (by omega), numsAll, List.append_nil]
  refine Ev.step (f := fun _ => some out) (fun k => ?_) (Ev.now _)
  simp only [lcs_Numbers.l0]
  rw [if_neg (by omega)]
 | succ d ih =>
  intro i seen out hd hi hseen hout
  have hi' : i < rows.length := by omega
  have hr := (hf.2 _ (getD_memS hi' [])).1
  rw [drop_getL hi', numsAll]
  refine Ev.step (f := fun k => lcs_Numbers.l1 k rows seen out (i : Int) [] ((0 : Nat) : Int)) (fun k => ?_) ?_
  ·simp only [lcs_Numbers.l0]
   rw [if_pos (by omega), if_pos (by omega)]; rfl
  ·refine numbers_row hf hi' out hout _ _ 0 seen [] rfl (Nat.zero_le _) (by rw [Nat.add_zero]; exact hseen) rfl ?_
   rw [List.drop_zero, List.nil_append, show out ++ nums (rows.getD i []) seen :: numsAll (rows.drop (i + 1)) (seenBy (rows.getD i []) seen) = (out ++ [nums (rows.getD i []) seen]) ++ numsAll (rows.drop (i + 1)) (seenBy (rows.getD i []) seen) by rw [List.append_assoc]; rfl]
   exact ih (i + 1) _ _ (by omega) (by omega) (Nat.le_trans (seenBy_length _ _) (by omega)) (by simp [hout])
theorem numbers_run {rows : List (List ByteArray)} (hf : Few rows) : Ev (fun k => lcs_Numbers.f k rows) (numsAll rows []) := by
 have := numbers_rows hf _ 0 [] [] rfl (Nat.zero_le _) (Nat.zero_le _) rfl
 unfold lcs_Numbers.f
 simpa using this
/-! the document's own -/
theorem ref_place {rows : List (List ByteArray)} (hf : Few rows) {i : Nat} (hi : i < rows.length) (out : List (List Int)) {j : Nat} (hj : j < (rows.getD i []).length) (seen : List ByteArray) (hseen : seen.length ≤ i * 1000 + j) (l : List Int) (hl : l.length = j) (res : List (List Int))
  (h : Ev (fun k => r05_Numbers.l1 k rows (grow seen ((rows.getD i []).getD j ByteArray.empty)) out (i : Int) (l ++ [(lcs_Numbers.ix seen ((rows.getD i []).getD j ByteArray.empty) : Int)]) ((j + 1 : Nat) : Int)) res) :
  ∀ (d n : Nat), lcs_Numbers.ix seen ((rows.getD i []).getD j ByteArray.empty) - n = d → n ≤ lcs_Numbers.ix seen ((rows.getD i []).getD j ByteArray.empty) →
   Ev (fun k => r05_Numbers.l2 k rows seen out (i : Int) l (j : Int) (n : Int)) res := by
 obtain ⟨hr, hs⟩ := hf.2 _ (getD_memS hi [])
 have hn := hf.1
 have hix := ix_le seen ((rows.getD i []).getD j ByteArray.empty)
 obtain ⟨s, es⟩ : ∃ s, s = (rows.getD i []).getD j ByteArray.empty := ⟨_, rfl⟩
 rw [← es] at h hix ⊢
 intro d
 induction d with
 | zero =>
  intro n hd hn'
  have en : n = lcs_Numbers.ix seen s := by omega
  by_cases hh : lcs_Numbers.has seen s = true
  ·have hlt := (has_iff seen s).1 hh
   have heq : (seen.getD n ByteArray.empty).data.toList = s.data.toList := by
    have := List.findIdx_getElem (xs := seen) (p := fun t : ByteArray => t.data.toList == s.data.toList) (w := hlt)
    rw [List.getD_eq_getElem?_getD, List.getElem?_eq_getElem (by rw [en]; exact hlt)]
    subst en
    simpa [lcs_Numbers.ix] using this
   rw [grow, if_pos hh, ← en] at h
   refine Ev.step (fun k => ?_) h
   simp only [r05_Numbers.l2]
   rw [if_pos (by omega), if_pos (by omega), if_pos (by omega), if_pos (by omega), if_pos (by omega), if_pos (show (j : Int) < ((rd_L9 rows (i : Int)).length : Int) from (show (j : Int) < ((rows.getD i []).length : Int) by omega)),
    if_pos (show (rdOf ByteArray.empty seen (n : Int)).toList = (rdOf ByteArray.empty (rd_L9 rows (i : Int)) (j : Int)).toList from show (seen.getD n ByteArray.empty).toList = ((rows.getD i []).getD j ByteArray.empty).toList by rw [← es, ByteArray.toList_eq, ByteArray.toList_eq]; exact heq), if_neg (by omega), if_pos (by omega), w64s j (by omega)]
  ·have e1 := ix_none hh
   rw [grow, if_neg hh, ← en] at h
   refine Ev.step (fun k => ?_) h
   simp only [r05_Numbers.l2]
   rw [if_neg (by omega), if_pos (by omega), if_pos (by omega), if_pos (by omega), if_pos (by omega), if_pos (show (j : Int) < ((rd_L9 rows (i : Int)).length : Int) from (show (j : Int) < ((rows.getD i []).length : Int) by omega)), if_pos (by omega), if_pos (by omega), w64s j (by omega), es]; rfl
 | succ d ih =>
  intro n hd hn'
  have hlt : n < seen.length := by omega
  have hne : ¬ (seen.getD n ByteArray.empty).data.toList = s.data.toList := by
   have := List.not_of_lt_findIdx (xs := seen) (p := fun t : ByteArray => t.data.toList == s.data.toList) (i := n) (show n < lcs_Numbers.ix seen s by omega)
   rw [List.getD_eq_getElem?_getD, List.getElem?_eq_getElem hlt]
   simpa using this
  refine Ev.step (f := fun k => r05_Numbers.l2 k rows seen out (i : Int) l (j : Int) ((n + 1 : Nat) : Int)) (fun k => ?_) (ih (n + 1) (by omega) (by omega))
  simp only [r05_Numbers.l2]
  rw [if_pos (by omega), if_pos (by omega), if_pos (by omega), if_pos (by omega), if_pos (by omega), if_pos (show (j : Int) < ((rd_L9 rows (i : Int)).length : Int) from (show (j : Int) < ((rows.getD i []).length : Int) by omega)),
   if_neg (show ¬ (rdOf ByteArray.empty seen (n : Int)).toList = (rdOf ByteArray.empty (rd_L9 rows (i : Int)) (j : Int)).toList from show ¬ (seen.getD n ByteArray.empty).toList = ((rows.getD i []).getD j ByteArray.empty).toList by rw [← es, ByteArray.toList_eq, ByteArray.toList_eq]; exact hne), w64s n (by omega)]
theorem ref_numbers_row {rows : List (List ByteArray)} (hf : Few rows) {i : Nat} (hi : i < rows.length) (out : List (List Int)) (hout : out.length = i) (res : List (List Int)) :
  ∀ (d j : Nat) (seen : List ByteArray) (l : List Int), (rows.getD i []).length - j = d → j ≤ (rows.getD i []).length → seen.length ≤ i * 1000 + j → l.length = j →
   Ev (fun k => r05_Numbers.l0 k rows (seenBy ((rows.getD i []).drop j) seen) (out ++ [l ++ nums ((rows.getD i []).drop j) seen]) ((i + 1 : Nat) : Int)) res →
   Ev (fun k => r05_Numbers.l1 k rows seen out (i : Int) l (j : Int)) res := by
 obtain ⟨hr, hs⟩ := hf.2 _ (getD_memS hi [])
 have hn := hf.1
 intro d
 induction d with
 | zero =>
  intro j seen l hd hj hseen hl h
  have e0 : (rows.getD i []).drop j = [] := List.drop_eq_nil_of_le (by omega)
  rw [e0, seenBy, nums, List.append_nil] at h
  refine Ev.step (fun k => ?_) h
  simp only [r05_Numbers.l1]
  rw [if_pos (by omega), if_pos (by omega), if_neg (show ¬ (j : Int) < ((rd_L9 rows (i : Int)).length : Int) from (show ¬ (j : Int) < ((rows.getD i []).length : Int) by omega)), if_pos (by omega), w64s i (by omega)]
 | succ d ih =>
  intro j seen l hd hj hseen hl h
  have hj' : j < (rows.getD i []).length := by omega
  rw [drop_getS hj', seenBy, nums] at h
  have h2 := ih (j + 1) (grow seen ((rows.getD i []).getD j ByteArray.empty)) (l ++ [(lcs_Numbers.ix seen ((rows.getD i []).getD j ByteArray.empty) : Int)]) (by omega) (by omega) (Nat.le_trans (grow_length _ _) (by omega)) (by simp [hl]) (by rw [List.append_assoc]; exact h)
  refine Ev.step (f := fun k => r05_Numbers.l2 k rows seen out (i : Int) l (j : Int) ((0 : Nat) : Int)) (fun k => ?_) (ref_place hf hi out hj' seen hseen l hl res h2 _ 0 rfl (Nat.zero_le _))
  simp only [r05_Numbers.l1]
  rw [if_pos (by omega), if_pos (by omega), if_pos (show (j : Int) < ((rd_L9 rows (i : Int)).length : Int) from (show (j : Int) < ((rows.getD i []).length : Int) by omega))]; rfl
theorem ref_numbers_rows {rows : List (List ByteArray)} (hf : Few rows) : ∀ (d i : Nat) (seen : List ByteArray) (out : List (List Int)), rows.length - i = d → i ≤ rows.length → seen.length ≤ i * 1000 → out.length = i →
  Ev (fun k => r05_Numbers.l0 k rows seen out (i : Int)) (out ++ numsAll (rows.drop i) seen) := by
 have hn := hf.1
 intro d
 induction d with
 | zero =>
  intro i seen out hd hi hseen hout
  rw [List.drop_eq_nil_of_le (by omega), numsAll, List.append_nil]
  refine Ev.step (f := fun _ => some out) (fun k => ?_) (Ev.now _)
  simp only [r05_Numbers.l0]
  rw [if_neg (by omega)]
 | succ d ih =>
  intro i seen out hd hi hseen hout
  have hi' : i < rows.length := by omega
  have hr := (hf.2 _ (getD_memS hi' [])).1
  rw [drop_getL hi', numsAll]
  refine Ev.step (f := fun k => r05_Numbers.l1 k rows seen out (i : Int) [] ((0 : Nat) : Int)) (fun k => ?_) ?_
  ·simp only [r05_Numbers.l0]
   rw [if_pos (by omega)]; rfl
  ·refine ref_numbers_row hf hi' out hout _ _ 0 seen [] rfl (Nat.zero_le _) (by rw [Nat.add_zero]; exact hseen) rfl ?_
   rw [List.drop_zero, List.nil_append, show out ++ nums (rows.getD i []) seen :: numsAll (rows.drop (i + 1)) (seenBy (rows.getD i []) seen) = (out ++ [nums (rows.getD i []) seen]) ++ numsAll (rows.drop (i + 1)) (seenBy (rows.getD i []) seen) by rw [List.append_assoc]; rfl]
   exact ih (i + 1) _ _ (by omega) (by omega) (Nat.le_trans (seenBy_length _ _) (by omega)) (by simp [hout])
theorem ref_numbers_run {rows : List (List ByteArray)} (hf : Few rows) : Ev (fun k => r05_Numbers.f k rows) (numsAll rows []) := by
 have := ref_numbers_rows hf _ 0 [] [] rfl (Nat.zero_le _) (Nat.zero_le _) rfl
 unfold r05_Numbers.f
 simpa using this
/-! rows of texts -/
def slS (l : List ByteArray) (i j : Int) : List ByteArray := (l.take j.toNat).drop i.toNat
theorem slS_length (l : List ByteArray) (i j : Int) : (slS l i j).length ≤ l.length := by unfold slS; simp only [List.length_drop, List.length_take]; omega
def mgS (a b : List ByteArray) : List S41 → List ByteArray
 | [] => []
 | x :: l => (if x.f0 = 2 then slS b x.f3.f0 x.f3.f1 else slS a x.f2.f0 x.f2.f1) ++ mgS a b l
def FitS (a b : List ByteArray) (x : S41) : Prop := 0 ≤ x.f2.f0 ∧ x.f2.f0 ≤ x.f2.f1 ∧ x.f2.f1 ≤ a.length ∧ 0 ≤ x.f3.f0 ∧ x.f3.f0 ≤ x.f3.f1 ∧ x.f3.f1 ≤ b.length
theorem goS_is (a b : List ByteArray) (ha : a.length ≤ 2000) (hb : b.length ≤ 2000) : ∀ (l : List S41) (acc : List ByteArray), (∀ x ∈ l, FitS a b x) → acc.length + l.length * 2000 ≤ 100000000 → diff3_merged_string.go a b l acc = some (acc ++ mgS a b l)
 | [], acc, _, _ => by rw [diff3_merged_string.go, mgS, List.append_nil]
 | x :: l, acc, hx, hl => by
  obtain ⟨h1, h2, h3, h4, h5, h6⟩ := hx x List.mem_cons_self
  simp only [List.length_cons] at hl
  have hp : diff3_merged_string.piece x a b = some (if x.f0 = 2 then slS b x.f3.f0 x.f3.f1 else slS a x.f2.f0 x.f2.f1) := by
   unfold diff3_merged_string.piece
   by_cases h : x.f0 = 2
   ·rw [if_pos h, if_pos h, if_pos ⟨h4, h5, h6⟩]; rfl
   ·rw [if_neg h, if_neg h, if_pos ⟨h1, h2, h3⟩]; rfl
  have hle : (if x.f0 = 2 then slS b x.f3.f0 x.f3.f1 else slS a x.f2.f0 x.f2.f1).length ≤ 2000 := by
   split
   ·exact Nat.le_trans (slS_length _ _ _) hb
   ·exact Nat.le_trans (slS_length _ _ _) ha
  rw [diff3_merged_string.go, hp, Option.bind_some, if_pos (by omega), goS_is a b ha hb l _ (fun y hy => hx y (List.mem_cons_of_mem _ hy)) (by rw [List.length_append]; omega), mgS, List.append_assoc]
theorem reftexts_loop (a b : List ByteArray) (ha : a.length ≤ 2000) (hb : b.length ≤ 2000) (L : List S41) (hL : L.length ≤ 1000000) (hf : ∀ x ∈ L, FitS a b x) : ∀ (l : List S41) (i : Nat) (acc : List ByteArray), L.drop i = l → i ≤ L.length → acc.length + l.length * 2000 ≤ 100000000 →
  Ev (fun k => r07_Texts.l0 k a b L acc (i : Int)) (acc ++ mgS a b l, true)
 | [], i, acc, h, hi, _ => by
  have : L.length ≤ i := by have := congrArg List.length h; rw [List.length_drop, List.length_nil] at this; omega
  rw [mgS, List.append_nil]
  exact Ev.step (f := fun _ => some (acc, true)) (fun k => by simp only [r07_Texts.l0]; rw [if_neg (by omega)]) (Ev.now _)
 | y :: r, i, acc, h, hi, hacc => by
  obtain ⟨g1, g2, g3⟩ := at41 h
  obtain ⟨h1, h2, h3, h4, h5, h6⟩ := hf y (by rw [← List.take_append_drop i L, h]; simp)
  simp only [List.length_cons] at hacc
  rw [mgS, ← List.append_assoc]
  by_cases hk : y.f0 = 2
  ·rw [if_pos hk]
   have hle := Nat.le_trans (slS_length b y.f3.f0 y.f3.f1) hb
   refine Ev.step (fun k => ?_) (reftexts_loop a b ha hb L hL hf r (i + 1) (acc ++ slS b y.f3.f0 y.f3.f1) g3 (by omega) (by rw [List.length_append]; omega))
   simp only [r07_Texts.l0]
   rw [if_pos (by omega), if_pos (by omega), g2, if_pos hk, if_pos h4, if_pos h5, if_pos h6, wi i (by omega)]
   unfold slS at hle ⊢
   rw [if_pos (by omega)]
  ·rw [if_neg hk]
   have hle := Nat.le_trans (slS_length a y.f2.f0 y.f2.f1) ha
   refine Ev.step (fun k => ?_) (reftexts_loop a b ha hb L hL hf r (i + 1) (acc ++ slS a y.f2.f0 y.f2.f1) g3 (by omega) (by rw [List.length_append]; omega))
   simp only [r07_Texts.l0]
   rw [if_pos (by omega), if_pos (by omega), g2, if_neg hk, if_pos h1, if_pos h2, if_pos h3, wi i (by omega)]
   unfold slS at hle ⊢
   rw [if_pos (by omega)]
theorem mgS_length (a b : List ByteArray) (M : Nat) (ha : a.length ≤ M) (hb : b.length ≤ M) : ∀ l : List S41, (mgS a b l).length ≤ l.length * M
 | [] => by simp [mgS]
 | x :: l => by
  have ih := mgS_length a b M ha hb l
  rw [mgS, List.length_append, List.length_cons]
  have : (if x.f0 = 2 then slS b x.f3.f0 x.f3.f1 else slS a x.f2.f0 x.f2.f1).length ≤ M := by
   split
   ·exact Nat.le_trans (slS_length _ _ _) hb
   ·exact Nat.le_trans (slS_length _ _ _) ha
  rw [Nat.add_mul]; omega
theorem same1_loop (x : List ByteArray) (hx : x.length ≤ 1000000) : ∀ (d i : Nat), x.length - i = d → i ≤ x.length → Ev (fun k => r01_Same.l0 k x x (i : Int)) true := by
 intro d
 induction d with
 | zero =>
  intro i hd hi
  exact Ev.step (f := fun _ => some true) (fun k => by simp only [r01_Same.l0]; rw [if_neg (by omega)]) (Ev.now _)
 | succ d ih =>
  intro i hd hi
  exact Ev.step (fun k => by simp only [r01_Same.l0]; rw [if_pos (by omega), if_pos (by omega), if_pos (by omega), if_pos trivial, wi i (by omega)]) (ih (i + 1) (by omega) (by omega))
theorem same1_runs (x : List ByteArray) (hx : x.length ≤ 1000000) : Ev (fun k => r01_Same.f k x x) true :=
 Ev.congr (fun k => if_pos rfl) (same1_loop x hx _ 0 rfl (Nat.zero_le _))
theorem Diff3Texts (o a b : List ByteArray) (h0 : o.length * 16 ≤ 140737488351232 ∧ o.length ≤ maxLen ∧ ∀ x ∈ o, x.size ≤ 140737488351232) (h1 : a.length * 16 ≤ 140737488351232 ∧ a.length ≤ maxLen ∧ ∀ x ∈ a, x.size ≤ 140737488351232)
  (h2 : b.length * 16 ≤ 140737488351232 ∧ b.length ≤ maxLen ∧ ∀ x ∈ b, x.size ≤ 140737488351232) : ∃ k, l07_Diff3Texts.f k o a b = some true := by
 refine Ev.rounds ?_
 unfold l07_Diff3Texts.f
 refine Ev.bind awake_runs (Ev.congr (fun k => if_pos rfl) ?_)
 have yes : Ev (fun k => l07_Diff3Texts.j0 k o a b true) true := Ev.step (f := fun _ => some true) (fun k => by simp only [l07_Diff3Texts.j0]; rw [if_pos trivial]) (Ev.now _)
 by_cases g0 : (o.length : Int) > 100
 ·exact Ev.congr (fun k => if_pos g0) yes
 by_cases g1 : (a.length : Int) > 100
 ·exact Ev.congr (fun k => (if_neg g0).trans (if_pos g1)) yes
 refine Ev.congr (fun k => (if_neg g0).trans (if_neg g1)) ?_
 by_cases g2 : (b.length : Int) > 100
 ·rw [decide_eq_true g2]; exact yes
 rw [decide_eq_false g2]
 have sm : ∀ {l : List ByteArray}, ¬ (l.length : Int) > 100 → (∀ x ∈ l, x.size ≤ 140737488351232) → l.length ≤ 1000 ∧ ∀ s ∈ l, s.size ≤ 140737488355328 := fun hl hs => ⟨by omega, fun s hm => Nat.le_trans (hs s hm) (by decide)⟩
 have few3 : Few [o, a, b] := ⟨by simp, fun r hr => by
  rcases List.mem_cons.1 hr with rfl | hr
  ·exact sm g0 h0.2.2
  rcases List.mem_cons.1 hr with rfl | hr
  ·exact sm g1 h1.2.2
  rcases List.mem_cons.1 hr with rfl | hr
  ·exact sm g2 h2.2.2
  ·cases hr⟩
 obtain ⟨x, hx⟩ : ∃ x, nums o [] = x := ⟨_, rfl⟩
 obtain ⟨y, hy⟩ : ∃ y, nums a (seenBy o []) = y := ⟨_, rfl⟩
 obtain ⟨z, hz⟩ : ∃ z, nums b (seenBy a (seenBy o [])) = z := ⟨_, rfl⟩
 have lx : x.length = o.length := by rw [← hx]; exact nums_length _ _
 have ly : y.length = a.length := by rw [← hy]; exact nums_length _ _
 have lz : z.length = b.length := by rw [← hz]; exact nums_length _ _
 have e3 : numsAll [o, a, b] [] = [x, y, z] := by rw [← hx, ← hy, ← hz]; rfl
 have n1 := numbers_run few3
 have n2 := ref_numbers_run few3
 rw [e3] at n1 n2
 obtain ⟨l, hc, hl⟩ := cuts0 x y z
 have ho : x.length ≤ 2000 := by omega
 have ha : y.length ≤ 2000 := by omega
 have hb : z.length ≤ 2000 := by omega
 obtain ⟨L, hLe⟩ : ∃ L, l.map (pc x y z) = L := ⟨_, rfl⟩
 have hLn : L.length = l.length := by rw [← hLe, List.length_map]
 have hL : L.length ≤ 1000000 := by omega
 have c1 := chunks_runs x y z ho ha hb hc hl
 have c2 := refchunks_runs x y z ho ha hb hc hl
 rw [hLe] at c1 c2
 have hf : ∀ u ∈ L, FitS a b u := fun u hu => by
  rw [← hLe] at hu
  obtain ⟨v, hv, rfl⟩ := List.mem_map.1 hu
  obtain ⟨f1, f2, f3, f4, f5, f6⟩ := pc_fit (cuts_fit hc v hv)
  exact ⟨f1, f2, by rw [← ly]; exact f3, f4, f5, by rw [← lz]; exact f6⟩
 have p1 : Ev (fun k => diff3_Parts.f k o a b) L := by
  unfold diff3_Parts.f
  exact Ev.bind n1 (Ev.congr (f := fun k => (diff3_Chunks.f k x y z).bind fun t => some t) (fun k => (if_pos (by simp)).trans ((if_pos (by simp)).trans (if_pos (by simp)))) (Ev.bind c1 (Ev.now _)))
 have p2 : Ev (fun k => r07_Parts.f k o a b) L := by
  unfold r07_Parts.f
  exact Ev.bind n2 (Ev.congr (f := fun k => (r07_Chunks.f k x y z).bind fun t => some t) (fun k => (if_pos (by simp)).trans ((if_pos (by simp)).trans (if_pos (by simp)))) (Ev.bind c2 (Ev.now _)))
 obtain ⟨M, hM⟩ : ∃ M : List ByteArray × Bool, (if cl L = true then (mgS a b L, true) else ([], false)) = M := ⟨_, rfl⟩
 have hMl : M.1.length ≤ 1000000 := by
  rw [← hM]
  split
  ·refine Nat.le_trans (mgS_length a b 100 (by omega) (by omega) _) (by omega)
  ·simp
 have q1 : Ev (fun k => diff3_Texts.f k o a b) M := by
  unfold diff3_Texts.f
  refine Ev.bind p1 (Ev.congr (f := fun _ => some M) (fun k => ?_) (Ev.now _))
  unfold diff3_merged_string.f
  show ((some (cl L)).bind _).bind _ = _
  rw [Option.bind_some, ← hM]
  cases cl L with
  | true => rw [if_pos rfl, if_pos rfl, goS_is a b (by omega) (by omega) _ [] hf (by rw [List.length_nil]; omega)]; rfl
  | false => rw [if_neg (by decide), if_neg (by decide)]; rfl
 have q2 : Ev (fun k => r07_Texts.f k o a b) M := by
  unfold r07_Texts.f
  refine Ev.bind p2 (Ev.bind (refclean_runs L hL) ?_)
  rw [← hM]
  cases cl L with
  | true =>
   refine Ev.congr (fun k => if_pos rfl) ?_
   rw [if_pos rfl]
   have := reftexts_loop a b (by omega) (by omega) L hL hf L 0 [] rfl (Nat.zero_le _) (by rw [List.length_nil]; omega)
   rw [List.nil_append] at this
   exact this
  | false => exact Ev.congr (f := fun _ => some ([], false)) (fun k => if_neg (by decide)) (by rw [if_neg (by decide)]; exact Ev.now _)
 refine Ev.step (fun k => by simp only [l07_Diff3Texts.j0]; rw [if_neg (by decide)]) (Ev.bind q1 (Ev.bind q2 (Ev.bind p1 (Ev.bind p2 (Ev.bind (refsame_runs L hL) ?_)))))
 exact Ev.congr (fun k => (if_pos rfl).trans (if_pos (by simp))) (Ev.bind (same1_runs _ hMl) (Ev.now _))
end Go.Proofs.Yteafndooaokagaa.Pure
