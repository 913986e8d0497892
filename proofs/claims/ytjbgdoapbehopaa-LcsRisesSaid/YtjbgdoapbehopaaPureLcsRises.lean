/- The law LcsRises answers true for every two slices of int. -/
import Derived.Test.YtjbgdoapbehopaaPLcsRisesx0
import Derived.Test.YtjbgdoapbehopaaPLcsRisesx1
import Derived.Test.YtjbgdoapbehopaaPLcsRisesx2
import Derived.Test.YtjbgdoapbehopaaPLcsRisesx3
import Derived.Test.YtjbgdoapbehopaaPLcsRisesx4
import Derived.Test.YtjbgdoapbehopaaPLcsRisesx5
import Derived.Test.YtjbgdoapbehopaaPLcsRisesx6
namespace Go.Proofs.Ytjbgdoapbehopaa.Pure
open Go.RowKit Go.Proofs.Ytjbgdoapbehopaa.PLcsRises Go.Proofs.YtjbgdoapbehopaaW.PrintWords Go.Proofs.YtjbgdoapbehopaaW.PrintLast Go.Proofs.YtjbgdoapbehopaaW.PrintMore
set_option linter.unusedVariables false
set_option linter.unusedSimpArgs false
/-! ### the longest common rows: mathematics alone -/
def lcs : List Int → List Int → Nat
  | [], _ => 0
  | _ :: _, [] => 0
  | x :: xs, y :: ys => if x = y then lcs xs ys + 1 else max (lcs xs (y :: ys)) (lcs (x :: xs) ys)
termination_by xs ys => xs.length + ys.length
theorem lcs_nil_l (ys : List Int) : lcs [] ys = 0 := by rw [lcs]
theorem lcs_nil_r (xs : List Int) : lcs xs [] = 0 := by cases xs <;> rw [lcs]
theorem lcs_same (x : Int) (xs ys : List Int) : lcs (x :: xs) (x :: ys) = lcs xs ys + 1 := by rw [lcs, if_pos rfl]
theorem lcs_other {x y : Int} (h : x ≠ y) (xs ys : List Int) : lcs (x :: xs) (y :: ys) = max (lcs xs (y :: ys)) (lcs (x :: xs) ys) := by rw [lcs, if_neg h]
theorem lcs_le : ∀ xs ys : List Int, lcs xs ys ≤ xs.length ∧ lcs xs ys ≤ ys.length := by
  intro xs ys
  induction xs, ys using lcs.induct with
  | case1 ys => rw [lcs_nil_l]; exact ⟨Nat.zero_le _, Nat.zero_le _⟩
  | case2 x xs => rw [lcs_nil_r]; exact ⟨Nat.zero_le _, Nat.zero_le _⟩
  | case3 x xs ys ih => rw [lcs_same]; simp only [List.length_cons]; omega
  | case4 x xs y ys h ih1 ih2 => rw [lcs_other h]; simp only [List.length_cons] at *; omega
/-- what of a row is held to be one of the other's things, from place k of that on -/
def held : List Int → List Int → Nat → List Int
  | [], _, _ => []
  | x :: xs, [], _ => List.replicate (xs.length + 1) (-1)
  | x :: xs, y :: ys, k => if x = y then (k : Int) :: held xs ys (k + 1) else if lcs xs (y :: ys) ≥ lcs (x :: xs) ys then (-1) :: held xs (y :: ys) k else held (x :: xs) ys (k + 1)
termination_by xs ys _ => xs.length + ys.length
theorem held_nil_r (xs : List Int) (k : Nat) : held xs [] k = List.replicate xs.length (-1) := by cases xs <;> rw [held] <;> simp
theorem held_same (x : Int) (xs ys : List Int) (k : Nat) : held (x :: xs) (x :: ys) k = (k : Int) :: held xs ys (k + 1) := by rw [held, if_pos rfl]
theorem held_skip {x y : Int} (h : x ≠ y) (xs ys : List Int) (k : Nat) (hg : lcs xs (y :: ys) ≥ lcs (x :: xs) ys) : held (x :: xs) (y :: ys) k = (-1) :: held xs (y :: ys) k := by rw [held, if_neg h, if_pos hg]
theorem held_turn {x y : Int} (h : x ≠ y) (xs ys : List Int) (k : Nat) (hg : ¬ lcs xs (y :: ys) ≥ lcs (x :: xs) ys) : held (x :: xs) (y :: ys) k = held (x :: xs) ys (k + 1) := by rw [held, if_neg h, if_neg hg]
theorem held_length : ∀ (xs ys : List Int) (k : Nat), (held xs ys k).length = xs.length := by
  intro xs ys k
  induction xs, ys, k using held.induct with
  | case1 ys k => rw [held]
  | case2 x xs k => rw [held_nil_r]; simp
  | case3 k x xs ys ih => rw [held_same]; simp [ih]
  | case4 x xs y ys k h hg ih => rw [held_skip h _ _ _ hg]; simp [ih]
  | case5 x xs y ys k h hg ih => rw [held_turn h _ _ _ hg]; exact ih
/-- how many are held -/
def many : List Int → Nat
  | [] => 0
  | m :: l => (if m ≥ 0 then 1 else 0) + many l
theorem many_none (n : Nat) : many (List.replicate n (-1)) = 0 := by
  induction n with
  | zero => rfl
  | succ n ih => rw [List.replicate_succ, many, ih]; simp
theorem held_many : ∀ (xs ys : List Int) (k : Nat), many (held xs ys k) = lcs xs ys := by
  intro xs ys k
  induction xs, ys, k using held.induct with
  | case1 ys k => rw [held, lcs_nil_l]; rfl
  | case2 x xs k => rw [held_nil_r, lcs_nil_r]; exact many_none _
  | case3 k x xs ys ih => rw [held_same, many, ih, lcs_same, if_pos (by omega)]; omega
  | case4 x xs y ys k h hg ih => rw [held_skip h _ _ _ hg, many, ih, lcs_other h, if_neg (by omega)]; omega
  | case5 x xs y ys k h hg ih => rw [held_turn h _ _ _ hg, ih, lcs_other h]; omega
theorem many_le (l : List Int) : many l ≤ l.length := by
  induction l with
  | nil => exact Nat.le_refl _
  | cons m l ih => rw [many, List.length_cons]; split <;> omega
/-! ### what the printed functions come to -/
theorem w64 {x : Int} (h0 : -9223372036854775808 ≤ x) (h1 : x ≤ 9223372036854775807) : wrap64 x = x := by unfold wrap64; omega
theorem w32 {x : Int} (h0 : -2147483648 ≤ x) (h1 : x ≤ 2147483647) : wrap32 x = x := by unfold wrap32; omega
theorem rd_nat (xs : List Int) (i : Nat) : rd xs (i : Int) = xs.getD i 0 := rfl
theorem getD_set_same {α : Type} {xs : List α} {i : Nat} (h : i < xs.length) (v d : α) : (xs.set i v).getD i d = v := by
  rw [List.getD_eq_getElem?_getD, List.getElem?_set_self h]; rfl
theorem getD_set_other {α : Type} {xs : List α} {i j : Nat} (h : i ≠ j) (v d : α) : (xs.set i v).getD j d = xs.getD j d := by
  rw [List.getD_eq_getElem?_getD, List.getD_eq_getElem?_getD, List.getElem?_set_ne h]
theorem drop_get {xs : List Int} {i : Nat} (h : i < xs.length) : xs.drop i = xs.getD i 0 :: xs.drop (i + 1) := by
  rw [List.drop_eq_getElem_cons h, List.getD_eq_getElem?_getD, List.getElem?_eq_getElem h]; rfl
/-- the table's entry -/
def T (a b : List Int) (i k : Nat) : Nat := lcs (a.drop i) (b.drop k)
theorem T_le (a b : List Int) (i k : Nat) : T a b i k ≤ a.length := Nat.le_trans (lcs_le _ _).1 (by simp)
theorem T_end_l (a b : List Int) (k : Nat) {i : Nat} (h : a.length ≤ i) : T a b i k = 0 := by unfold T; rw [List.drop_eq_nil_of_le h, lcs_nil_l]
theorem T_end_r (a b : List Int) (i : Nat) {k : Nat} (h : b.length ≤ k) : T a b i k = 0 := by unfold T; rw [List.drop_eq_nil_of_le h, lcs_nil_r]
theorem T_same {a b : List Int} {i k : Nat} (hi : i < a.length) (hk : k < b.length) (h : a.getD i 0 = b.getD k 0) : T a b i k = T a b (i + 1) (k + 1) + 1 := by
  unfold T; rw [drop_get hi, drop_get hk, h, lcs_same]
theorem T_other {a b : List Int} {i k : Nat} (hi : i < a.length) (hk : k < b.length) (h : ¬ a.getD i 0 = b.getD k 0) : T a b i k = max (T a b (i + 1) k) (T a b i (k + 1)) := by
  unfold T; rw [drop_get hi, drop_get hk, lcs_other h]
/-- row i of the table is told from place k on -/
def RowFrom (a b : List Int) (i k : Nat) (r : List Int) : Prop := r.length = b.length + 1 ∧ ∀ j, k ≤ j → j ≤ b.length → r.getD j 0 = (T a b i j : Int)
def TabFrom (a b : List Int) (i : Nat) (t : List (List Int)) : Prop := t.length = a.length + 1 ∧ ∀ j, i ≤ j → j ≤ a.length → RowFrom a b j 0 (t.getD j [])
theorem row_zero (a b : List Int) (n : Nat) (hn : n = b.length + 1) {i : Nat} (hi : a.length ≤ i) : RowFrom a b i 0 (List.replicate n 0) := by
  subst hn
  refine ⟨by simp, fun j _ hj => ?_⟩
  rw [T_end_l a b j hi, List.getD_eq_getElem?_getD, List.getElem?_replicate]; split <;> rfl
theorem row_last (a b : List Int) (n : Nat) (hn : n = b.length + 1) (i : Nat) : RowFrom a b i b.length (List.replicate n 0) := by
  subst hn
  refine ⟨by simp, fun j h1 h2 => ?_⟩
  rw [T_end_r a b i h1, List.getD_eq_getElem?_getD, List.getElem?_replicate]; split <;> rfl
theorem row_step {a b : List Int} {i k : Nat} {r : List Int} (h : RowFrom a b i (k + 1) r) (hk : k < b.length) : RowFrom a b i k (r.set k (T a b i k : Int)) := by
  refine ⟨by simpa using h.1, fun j h1 h2 => ?_⟩
  by_cases e : k = j
  · subst e; exact getD_set_same (by rw [h.1]; omega) _ _
  · rw [getD_set_other e]; exact h.2 j (by omega) h2
theorem tab_set {a b : List Int} {i : Nat} {t : List (List Int)} (h : TabFrom a b (i + 1) t) (hi : i ≤ a.length) {r : List Int} (hr : RowFrom a b i 0 r) : TabFrom a b i (t.set i r) := by
  refine ⟨by simpa using h.1, fun j h1 h2 => ?_⟩
  by_cases e : i = j
  · subst e; rw [getD_set_same (by rw [h.1]; omega)]; exact hr
  · rw [getD_set_other e]; exact h.2 j (by omega) h2
theorem tab_over {a b : List Int} {i : Nat} {t : List (List Int)} (h : TabFrom a b (i + 1) t) (r : List Int) : TabFrom a b (i + 1) (t.set i r) := by
  refine ⟨by simpa using h.1, fun j h1 h2 => ?_⟩
  rw [getD_set_other (by omega)]; exact h.2 j h1 h2
theorem set_set {α : Type} (xs : List α) (i : Nat) (u v : α) : (xs.set i u).set i v = xs.set i v := by simp

theorem none_runs (n : Nat) (hn : n ≤ 3000) : Ev (fun k => lcs_none.f k (n : Int)) (List.replicate n (-1)) := by
  have loop : ∀ (d j : Nat) (x : List Int), n - j = d → j ≤ n → x.length = n → (∀ i, i < j → x.getD i 0 = -1) → Ev (fun k => lcs_none.l0 k x (n : Int) (j : Int)) (List.replicate n (-1)) := by
    intro d
    induction d with
    | zero =>
      intro j x hd hj hx hp
      refine Ev.step (f := fun _ => some (List.replicate n (-1))) (fun k => ?_) (Ev.now _)
      simp only [lcs_none.l0]
      rw [if_neg (by omega)]
      refine congrArg some (List.ext_getElem? fun i => ?_)
      by_cases hi : i < n
      · have := hp i (by omega)
        rw [List.getD_eq_getElem?_getD] at this
        rw [List.getElem?_replicate, if_pos hi]
        rw [List.getElem?_eq_getElem (by omega)] at this ⊢
        simpa using this
      · rw [List.getElem?_eq_none (by omega), List.getElem?_replicate, if_neg hi]
    | succ d ih =>
      intro j x hd hj hx hp
      refine Ev.step (f := fun k => lcs_none.l0 k (x.set j (-1)) (n : Int) ((j + 1 : Nat) : Int)) (fun k => ?_) (ih (j + 1) _ (by omega) (by omega) (by simpa using hx) (fun i hi => ?_))
      · simp only [lcs_none.l0]
        rw [if_pos (by omega), if_pos (by omega), if_pos (by omega), w64 (by omega) (by omega)]
        rfl
      · by_cases e : j = i
        · subst e; exact getD_set_same (by omega) _ _
        · rw [getD_set_other e]; exact hp i (by omega)
  refine Ev.congr (f := fun k => lcs_none.l0 k (List.replicate n 0) (n : Int) 0) (fun k => ?_) (loop n 0 _ (by omega) (by omega) (by simp) (fun i hi => by omega))
  simp only [lcs_none.f]
  rw [if_pos (by omega), if_pos (by omega)]
  rfl
theorem tab_of_row {a b : List Int} {i : Nat} {t : List (List Int)} (h : TabFrom a b (i + 1) t) (hr : RowFrom a b i 0 (t.getD i [])) : TabFrom a b i t := by
  refine ⟨h.1, fun j h1 h2 => ?_⟩
  by_cases e : i = j
  · subst e; exact hr
  · exact h.2 j (by omega) h2
theorem mx_nat (x y : Nat) : mx (x : Int) (y : Int) = ((max x y : Nat) : Int) := by unfold mx; split <;> omega
theorem left_runs (a b : List Int) (ha : a.length ≤ 3000) (hb : b.length ≤ 3000) : ∃ t, TabFrom a b 0 t ∧ Ev (fun k => lcs_left.f k a b) t := by
  have outer : ∀ (i : Nat), i ≤ a.length → ∀ t, TabFrom a b i t → ∃ t', TabFrom a b 0 t' ∧ Ev (fun k => lcs_left.l0 k a b t ((i : Int) - 1)) t' := by
    intro i
    induction i with
    | zero =>
      intro _ t ht
      refine ⟨t, ht, Ev.step (f := fun _ => some t) (fun k => ?_) (Ev.now _)⟩
      simp only [lcs_left.l0]
      rw [if_neg (by omega)]
    | succ i ihi =>
      intro hi t ht
      have inner : ∀ (j : Nat), j ≤ b.length → ∀ t, TabFrom a b (i + 1) t → RowFrom a b i j (t.getD i []) → ∃ t', TabFrom a b 0 t' ∧ Ev (fun k => lcs_left.l1 k a b t (i : Int) ((j : Int) - 1)) t' := by
        intro j
        induction j with
        | zero =>
          intro _ t ht hr
          obtain ⟨t', h1, h2⟩ := ihi (by omega) t (tab_of_row ht hr)
          refine ⟨t', h1, Ev.step (f := fun k => lcs_left.l0 k a b t ((i : Int) - 1)) (fun k => ?_) h2⟩
          simp only [lcs_left.l1]
          rw [if_neg (by omega), w64 (by omega) (by omega)]
        | succ j ihj =>
          intro hj t ht hr
          have hrow := ht.2 (i + 1) (Nat.le_refl _) hi
          have hlen := ht.1
          obtain ⟨t', h1, h2⟩ := ihj (by omega) (t.set i ((t.getD i []).set j (T a b i j : Int))) (tab_over ht _) (by rw [getD_set_same (by omega)]; exact row_step hr (by omega))
          refine ⟨t', h1, Ev.step (f := fun k => lcs_left.l1 k a b (t.set i ((t.getD i []).set j (T a b i j : Int))) (i : Int) ((j : Int) - 1)) (fun k => ?_) h2⟩
          have e1 : ((j + 1 : Nat) : Int) - 1 = (j : Int) := by omega
          have e2 : wrap64 ((i : Int) + 1) = ((i + 1 : Nat) : Int) := by rw [w64 (by omega) (by omega)]; omega
          have e3 : wrap64 ((j : Int) + 1) = ((j + 1 : Nat) : Int) := by rw [w64 (by omega) (by omega)]; omega
          have e4 : wrap64 ((j : Int) - 1) = (j : Int) - 1 := w64 (by omega) (by omega)
          have r1 : rd_L2 t ((i + 1 : Nat) : Int) = t.getD (i + 1) [] := rfl
          have r0 : rd_L2 t (i : Int) = t.getD i [] := rfl
          have hT := T_le a b (i + 1) (j + 1)
          simp only [lcs_left.l1]
          rw [e1, e2, e3, e4, r1, r0, if_pos (by omega), if_pos (by omega), if_pos (by omega), if_pos (by omega), if_pos (by omega)]
          by_cases he : a.getD i 0 = b.getD j 0
          · rw [if_pos (show rd a (i : Int) = rd b (j : Int) from he), if_pos (by omega), if_pos (by omega), if_pos (by omega), if_pos (by omega), if_pos (by rw [hrow.1]; omega), if_pos (by rw [hr.1]; omega)]
            simp only [rd_nat, Int.toNat_natCast]
            rw [hrow.2 (j + 1) (by omega) (by omega), w32 (by omega) (by omega), T_same (by omega) (by omega) he]
            rfl
          · rw [if_neg (show ¬ rd a (i : Int) = rd b (j : Int) from he), if_pos (by omega), if_pos (by omega), if_pos (by omega), if_pos (by rw [hrow.1]; omega), if_pos (by omega), if_pos (by rw [hr.1]; omega), if_pos (by rw [hr.1]; omega)]
            simp only [rd_nat, Int.toNat_natCast]
            rw [hrow.2 j (by omega) (by omega), hr.2 (j + 1) (by omega) (by omega), mx_nat, T_other (by omega) (by omega) he]
      have hlen := ht.1
      obtain ⟨t', h1, h2⟩ := inner b.length (Nat.le_refl _) (t.set i (List.replicate (wrap64 ((b.length : Int) + 1)).toNat 0)) (tab_over ht _) (by rw [getD_set_same (by omega)]; exact row_last a b _ (by rw [w64 (by omega) (by omega)]; omega) i)
      refine ⟨t', h1, Ev.step (f := fun k => lcs_left.l1 k a b (t.set i (List.replicate (wrap64 ((b.length : Int) + 1)).toNat 0)) (i : Int) ((b.length : Int) - 1)) (fun k => ?_) h2⟩
      have e1 : ((i + 1 : Nat) : Int) - 1 = (i : Int) := by omega
      have e2 : wrap64 ((b.length : Int) - 1) = (b.length : Int) - 1 := w64 (by omega) (by omega)
      have e3 : wrap64 ((b.length : Int) + 1) = (b.length : Int) + 1 := w64 (by omega) (by omega)
      simp only [lcs_left.l0]
      rw [e1, e2, e3, if_pos (by omega), if_pos (by omega), if_pos (by omega), if_pos (by omega), if_pos (by omega)]
      rfl
  have e3 : wrap64 ((b.length : Int) + 1) = (b.length : Int) + 1 := w64 (by omega) (by omega)
  have e4 : wrap64 ((a.length : Int) + 1) = (a.length : Int) + 1 := w64 (by omega) (by omega)
  have e5 : wrap64 ((a.length : Int) - 1) = (a.length : Int) - 1 := w64 (by omega) (by omega)
  have hl : (List.replicate ((a.length : Int) + 1).toNat ([] : List Int)).length = a.length + 1 := by rw [List.length_replicate]; omega
  obtain ⟨t', h1, h2⟩ := outer a.length (Nat.le_refl _) ((List.replicate ((a.length : Int) + 1).toNat []).set a.length (List.replicate ((b.length : Int) + 1).toNat 0)) ⟨by rw [List.length_set, hl], fun j h1 h2 => by
    obtain rfl : j = a.length := by omega
    rw [getD_set_same (by omega)]
    exact row_zero a b _ (by omega) (Nat.le_refl _)⟩
  refine ⟨t', h1, Ev.congr (fun k => ?_) h2⟩
  simp only [lcs_left.f]
  rw [e3, e4, e5, if_pos (by omega), if_pos (by omega), Option.bind_some, if_pos (by omega), if_pos (by omega), if_pos (by omega), if_pos (by rw [hl]; omega)]
  rfl
theorem w64s (i : Nat) (h : i ≤ 1000000000) : wrap64 ((i : Int) + 1) = ((i + 1 : Nat) : Int) := by rw [w64 (by omega) (by omega)]; omega
theorem set_mid (pre : List Int) (n : Nat) (v : Int) : (pre ++ List.replicate (n + 1) (-1)).set pre.length v = (pre ++ [v]) ++ List.replicate n (-1) := by
  rw [List.set_append_right _ _ (Nat.le_refl _), Nat.sub_self, List.replicate_succ, List.set_cons_zero, List.append_assoc]
  rfl
theorem match_loop (a b : List Int) (ha : a.length ≤ 3000) (hb : b.length ≤ 3000) (t : List (List Int)) (ht : TabFrom a b 0 t) : ∀ (d i j : Nat) (pre : List Int), (a.length - i) + (b.length - j) = d → i ≤ a.length → j ≤ b.length → pre.length = i →
    Ev (fun k => lcs_Match.l0 k a b (pre ++ List.replicate (a.length - i) (-1)) t (i : Int) (j : Int)) (pre ++ held (a.drop i) (b.drop j) j) := by
  intro d
  induction d using Nat.strongRecOn with
  | _ d ih =>
  intro i j pre hd hi hj hp
  by_cases h1 : i < a.length
  · by_cases h2 : j < b.length
    · have hn : a.length - i = (a.length - (i + 1)) + 1 := (Nat.succ_pred_eq_of_pos (Nat.sub_pos_of_lt h1)).symm
      have hlen := ht.1
      have r1 := ht.2 (i + 1) (Nat.zero_le _) (by omega)
      have r0 := ht.2 i (Nat.zero_le _) (by omega)
      have q1 : rd_L2 t ((i + 1 : Nat) : Int) = t.getD (i + 1) [] := rfl
      have q0 : rd_L2 t (i : Int) = t.getD i [] := rfl
      have hol : (pre ++ List.replicate (a.length - i) (-1)).length = a.length := by rw [List.length_append, List.length_replicate]; omega
      refine Ev.step (f := fun k => lcs_Match.j2 k a b (pre ++ List.replicate (a.length - i) (-1)) t (i : Int) (j : Int) true) (fun k => ?_) ?_
      · simp only [lcs_Match.l0]
        rw [if_pos (by omega), decide_eq_true (by omega)]
      by_cases he : a.getD i 0 = b.getD j 0
      · refine Ev.step (f := fun k => lcs_Match.l0 k a b ((pre ++ [(j : Int)]) ++ List.replicate (a.length - (i + 1)) (-1)) t ((i + 1 : Nat) : Int) ((j + 1 : Nat) : Int)) (fun k => ?_) ?_
        · simp only [lcs_Match.j2]
          rw [if_pos trivial, if_pos (by omega), if_pos (by omega), if_pos (by omega), if_pos (by omega), if_pos (show rd a (i : Int) = rd b (j : Int) from he), if_pos (by rw [hol]; omega), w64s i (by omega), w64s j (by omega)]
          rw [Int.toNat_natCast, hn, ← hp, set_mid, hp]
        · have := ih ((a.length - (i + 1)) + (b.length - (j + 1))) (by omega) (i + 1) (j + 1) (pre ++ [(j : Int)]) rfl (by omega) (by omega) (by rw [List.length_append, hp]; rfl)
          rw [drop_get h1, drop_get h2, he, held_same]
          simpa using this
      · by_cases hg : T a b (i + 1) j ≥ T a b i (j + 1)
        · refine Ev.step (f := fun k => lcs_Match.l0 k a b ((pre ++ [-1]) ++ List.replicate (a.length - (i + 1)) (-1)) t ((i + 1 : Nat) : Int) (j : Int)) (fun k => ?_) ?_
          · simp only [lcs_Match.j2]
            rw [if_pos trivial, if_pos (by omega), if_pos (by omega), if_pos (by omega), if_pos (by omega), if_neg (show ¬ rd a (i : Int) = rd b (j : Int) from he), w64s i (by omega), w64s j (by omega), q1, q0, if_pos (by omega), if_pos (by omega), if_pos (by rw [r1.1]; omega), if_pos (by omega), if_pos (by omega), if_pos (by rw [r0.1]; omega), if_pos (by rw [rd_nat, rd_nat, r1.2 j (by omega) (by omega), r0.2 (j + 1) (by omega) (by omega)]; omega)]
            rw [show a.length - i = (a.length - (i + 1)) + 1 by omega, List.replicate_succ, List.append_assoc]
            rfl
          · have := ih ((a.length - (i + 1)) + (b.length - j)) (by omega) (i + 1) j (pre ++ [-1]) rfl (by omega) (by omega) (by rw [List.length_append, hp]; rfl)
            rw [drop_get h1, drop_get h2, held_skip he _ _ _ (by rw [← drop_get h1, ← drop_get h2]; exact hg), ← drop_get h2]
            simpa using this
        · refine Ev.step (f := fun k => lcs_Match.l0 k a b (pre ++ List.replicate (a.length - i) (-1)) t (i : Int) ((j + 1 : Nat) : Int)) (fun k => ?_) ?_
          · simp only [lcs_Match.j2]
            rw [if_pos trivial, if_pos (by omega), if_pos (by omega), if_pos (by omega), if_pos (by omega), if_neg (show ¬ rd a (i : Int) = rd b (j : Int) from he), w64s i (by omega), w64s j (by omega), q1, q0, if_pos (by omega), if_pos (by omega), if_pos (by rw [r1.1]; omega), if_pos (by omega), if_pos (by omega), if_pos (by rw [r0.1]; omega), if_neg (by rw [rd_nat, rd_nat, r1.2 j (by omega) (by omega), r0.2 (j + 1) (by omega) (by omega)]; omega)]
          · have := ih ((a.length - i) + (b.length - (j + 1))) (by omega) i (j + 1) pre rfl (by omega) (by omega) hp
            rw [drop_get h1, drop_get h2, held_turn he _ _ _ (by rw [← drop_get h1, ← drop_get h2]; exact hg), ← drop_get h1]
            exact this
    · refine Ev.step (f := fun k => lcs_Match.j2 k a b (pre ++ List.replicate (a.length - i) (-1)) t (i : Int) (j : Int) false) (fun k => ?_) (Ev.step (f := fun _ => some (pre ++ List.replicate (a.length - i) (-1))) (fun k => ?_) ?_)
      · simp only [lcs_Match.l0]
        rw [if_pos (by omega), decide_eq_false (by omega)]
      · simp only [lcs_Match.j2]
        rw [if_neg (by decide)]
      · rw [List.drop_eq_nil_of_le (by omega : b.length ≤ j), held_nil_r, List.length_drop]
        exact Ev.now _
  · refine Ev.step (f := fun k => lcs_Match.j2 k a b (pre ++ List.replicate (a.length - i) (-1)) t (i : Int) (j : Int) false) (fun k => ?_) (Ev.step (f := fun _ => some (pre ++ List.replicate (a.length - i) (-1))) (fun k => ?_) ?_)
    · simp only [lcs_Match.l0]
      rw [if_neg (by omega)]
    · simp only [lcs_Match.j2]
      rw [if_neg (by decide)]
    · rw [List.drop_eq_nil_of_le (by omega : a.length ≤ i), show a.length - i = 0 by omega, held]
      exact Ev.now _
theorem match_runs (a b : List Int) (ha : a.length ≤ 2000) (hb : b.length ≤ 2000) : Ev (fun k => lcs_Match.f k a b) (held a b 0) := by
  obtain ⟨t, ht, he⟩ := left_runs a b (by omega) (by omega)
  refine Ev.bind (f := fun k t140 => if (a.length : Int) > 2000 then lcs_Match.j0 k a b t140 true else lcs_Match.j0 k a b t140 (decide ((b.length : Int) > 2000))) (none_runs a.length (by omega)) ?_
  refine Ev.congr (f := fun k => lcs_Match.j0 k a b (List.replicate a.length (-1)) false) (fun k => ?_) (Ev.step (f := fun k => (lcs_left.f k a b).bind fun t146 => lcs_Match.l0 k a b (List.replicate a.length (-1)) t146 0 0) (fun k => ?_) (Ev.bind he ?_))
  · show (if (a.length : Int) > 2000 then _ else _) = _
    rw [if_neg (by omega), decide_eq_false (by omega)]
  · simp only [lcs_Match.j0]
    rw [if_neg (by decide)]
  · have := match_loop a b (by omega) (by omega) t ht _ 0 0 [] rfl (by omega) (by omega) rfl
    simpa using this
theorem length_loop (l : List Int) (hl : l.length ≤ 3000) : ∀ (d j c : Nat), l.length - j = d → j ≤ l.length → c ≤ j → Ev (fun k => lcs_Length.l0 k (c : Int) l (l.length : Int) (j : Int)) ((c + many (l.drop j) : Nat) : Int) := by
  intro d
  induction d with
  | zero =>
    intro j c hd hj hc
    refine Ev.step (f := fun _ => some (c : Int)) (fun k => ?_) ?_
    · simp only [lcs_Length.l0]
      rw [if_neg (by omega)]
    · rw [List.drop_eq_nil_of_le (by omega)]; exact Ev.now _
  | succ d ih =>
    intro j c hd hj hc
    rw [drop_get (show j < l.length by omega), many]
    by_cases hg : l.getD j 0 ≥ 0
    · refine Ev.step (f := fun k => lcs_Length.l0 k ((c + 1 : Nat) : Int) l (l.length : Int) ((j + 1 : Nat) : Int)) (fun k => ?_) ?_
      · simp only [lcs_Length.l0]
        rw [if_pos (by omega), if_pos (by omega), if_pos (by omega), if_pos (show rd l (j : Int) ≥ 0 from hg), w64s j (by omega), w64s c (by omega)]
      · rw [if_pos hg, ← Nat.add_assoc]; exact ih (j + 1) (c + 1) (by omega) (by omega) (by omega)
    · refine Ev.step (f := fun k => lcs_Length.l0 k (c : Int) l (l.length : Int) ((j + 1 : Nat) : Int)) (fun k => ?_) ?_
      · simp only [lcs_Length.l0]
        rw [if_pos (by omega), if_pos (by omega), if_pos (by omega), if_neg (show ¬ rd l (j : Int) ≥ 0 from hg), w64s j (by omega)]
      · rw [if_neg hg, Nat.zero_add]; exact ih (j + 1) c (by omega) (by omega) (by omega)
theorem length_of {a b m : List Int} (h : Ev (fun k => lcs_Match.f k a b) m) (hl : m.length ≤ 3000) : Ev (fun k => lcs_Length.f k a b) (many m : Int) :=
  Ev.bind (f := fun k t156 => lcs_Length.l0 k 0 t156 (t156.length : Int) 0) h (by simpa using length_loop m hl _ 0 0 rfl (by omega) (by omega))
theorem length_runs (a b : List Int) (ha : a.length ≤ 2000) (hb : b.length ≤ 2000) : Ev (fun k => lcs_Length.f k a b) (lcs a b : Int) := by
  rw [← held_many a b 0]
  exact length_of (match_runs a b ha hb) (by rw [held_length]; omega)
/-! ### laws of the longest common rows -/
theorem common_le : ∀ (xs ys l : List Int), l.Sublist xs → l.Sublist ys → l.length ≤ lcs xs ys := by
  intro xs ys
  induction xs, ys using lcs.induct with
  | case1 ys => intro l h1 _; rw [List.sublist_nil.1 h1]; exact Nat.zero_le _
  | case2 x xs => intro l _ h2; rw [List.sublist_nil.1 h2]; exact Nat.zero_le _
  | case3 xs x ys ih =>
    intro l h1 h2
    rw [lcs_same]
    cases l with
    | nil => exact Nat.zero_le _
    | cons z l =>
      have a1 : l.Sublist xs := by cases h1 with
        | cons _ h => exact List.Sublist.trans (List.sublist_cons_self _ _) h
        | cons_cons _ h => exact h
      have a2 : l.Sublist ys := by cases h2 with
        | cons _ h => exact List.Sublist.trans (List.sublist_cons_self _ _) h
        | cons_cons _ h => exact h
      have := ih l a1 a2
      simp only [List.length_cons]; omega
  | case4 x xs y ys h ih1 ih2 =>
    intro l h1 h2
    rw [lcs_other h]
    cases h1 with
    | cons _ h1 => exact Nat.le_trans (ih1 l h1 h2) (Nat.le_max_left _ _)
    | cons_cons _ h1 =>
      cases h2 with
      | cons _ h2 => exact Nat.le_trans (ih2 _ (List.Sublist.cons_cons _ h1) h2) (Nat.le_max_right _ _)
      | cons_cons _ h2 => exact absurd rfl h
theorem common_is : ∀ (xs ys : List Int), ∃ l : List Int, l.Sublist xs ∧ l.Sublist ys ∧ l.length = lcs xs ys := by
  intro xs ys
  induction xs, ys using lcs.induct with
  | case1 ys => exact ⟨[], List.nil_sublist _, List.nil_sublist _, by rw [lcs_nil_l]; rfl⟩
  | case2 x xs => exact ⟨[], List.nil_sublist _, List.nil_sublist _, by rw [lcs_nil_r]; rfl⟩
  | case3 xs x ys ih =>
    obtain ⟨l, h1, h2, h3⟩ := ih
    exact ⟨x :: l, List.Sublist.cons_cons _ h1, List.Sublist.cons_cons _ h2, by rw [lcs_same, List.length_cons, h3]⟩
  | case4 x xs y ys h ih1 ih2 =>
    obtain ⟨l, h1, h2, h3⟩ := ih1
    obtain ⟨m, g1, g2, g3⟩ := ih2
    rw [lcs_other h]
    by_cases hc : lcs xs (y :: ys) ≥ lcs (x :: xs) ys
    · exact ⟨l, List.Sublist.cons _ h1, h2, by omega⟩
    · exact ⟨m, g1, List.Sublist.cons _ g2, by omega⟩
theorem lcs_mono {xs xs' ys ys' : List Int} (h : xs.Sublist xs') (g : ys.Sublist ys') : lcs xs ys ≤ lcs xs' ys' := by
  obtain ⟨l, h1, h2, h3⟩ := common_is xs ys
  rw [← h3]; exact common_le _ _ _ (h1.trans h) (h2.trans g)
theorem lcs_symm (xs ys : List Int) : lcs ys xs = lcs xs ys := by
  apply Nat.le_antisymm
  · obtain ⟨l, h1, h2, h3⟩ := common_is ys xs; rw [← h3]; exact common_le _ _ _ h2 h1
  · obtain ⟨l, h1, h2, h3⟩ := common_is xs ys; rw [← h3]; exact common_le _ _ _ h2 h1
theorem lcs_rev (xs ys : List Int) : lcs xs.reverse ys.reverse = lcs xs ys := by
  apply Nat.le_antisymm
  · obtain ⟨l, h1, h2, h3⟩ := common_is xs.reverse ys.reverse
    rw [← h3, ← List.length_reverse]
    exact common_le _ _ _ (by rw [← List.reverse_reverse xs]; exact List.reverse_sublist.2 h1) (by rw [← List.reverse_reverse ys]; exact List.reverse_sublist.2 h2)
  · obtain ⟨l, h1, h2, h3⟩ := common_is xs ys
    rw [← h3, ← List.length_reverse]
    exact common_le _ _ _ (List.reverse_sublist.2 h1) (List.reverse_sublist.2 h2)
theorem lcs_more (xs ys : List Int) (x : Int) : lcs (xs ++ [x]) (ys ++ [x]) = lcs xs ys + 1 := by
  rw [← lcs_rev, List.reverse_append, List.reverse_append]
  show lcs (x :: xs.reverse) (x :: ys.reverse) = _
  rw [lcs_same, lcs_rev]
theorem lcs_sub {l xs : List Int} (h : l.Sublist xs) : lcs l xs = l.length :=
  Nat.le_antisymm (lcs_le _ _).1 (common_le _ _ _ (List.Sublist.refl _) h)
theorem lcs_self (xs : List Int) : lcs xs xs = xs.length := lcs_sub (List.Sublist.refl _)
theorem lcs_one (x : Int) (xs : List Int) : ∀ ys, lcs (x :: xs) ys ≤ lcs xs ys + 1 := by
  intro ys
  induction ys with
  | nil => rw [lcs_nil_r]; exact Nat.zero_le _
  | cons y ys ih =>
    have hm : lcs xs ys ≤ lcs xs (y :: ys) := lcs_mono (List.Sublist.refl _) (List.sublist_cons_self _ _)
    by_cases h : x = y
    · subst h; rw [lcs_same]; omega
    · rw [lcs_other h]; omega
theorem lcs_left_out {l xs : List Int} (h : l.Sublist xs) : ∀ ys, lcs xs ys + l.length ≤ lcs l ys + xs.length := by
  induction h with
  | slnil => intro ys; exact Nat.le_refl _
  | @cons l xs x h ih => intro ys; have := ih ys; have := lcs_one x xs ys; simp only [List.length_cons] at *; omega
  | @cons_cons l xs x h ih =>
    intro ys
    induction ys with
    | nil => rw [lcs_nil_r, lcs_nil_r]; simp only [List.length_cons]; have := h.length_le; omega
    | cons y ys ihy =>
      by_cases he : x = y
      · subst he; rw [lcs_same, lcs_same]; have := ih ys; simp only [List.length_cons]; omega
      · rw [lcs_other he, lcs_other he]; have := ih (y :: ys); simp only [List.length_cons] at *; omega
/-- rising places, at which the things are alike -/
def Rises (b : List Int) : List Int → List Int → Int → Prop
  | x :: xs, m :: l, last => if m < 0 then Rises b xs l last else (last < m ∧ m < b.length ∧ b.getD m.toNat 0 = x) ∧ Rises b xs l m
  | [], [], _ => True
  | _, _, _ => False
theorem rises_none (b : List Int) : ∀ (xs : List Int) (last : Int), Rises b xs (List.replicate xs.length (-1)) last := by
  intro xs
  induction xs with
  | nil => intro last; trivial
  | cons x xs ih => intro last; rw [List.length_cons, List.replicate_succ, Rises, if_pos (by omega)]; exact ih last
theorem held_rises (b : List Int) : ∀ (xs ys : List Int) (k : Nat) (last : Int), ys = b.drop k → last < k → Rises b xs (held xs ys k) last := by
  intro xs ys k
  induction xs, ys, k using held.induct with
  | case1 ys k => intro last _ _; rw [held]; trivial
  | case2 x xs k => intro last _ _; rw [held_nil_r]; exact rises_none b _ _
  | case3 xs x ys k ih =>
    intro last hy hl
    have hk : k < b.length := by
      rcases Nat.lt_or_ge k b.length with h | h
      · exact h
      · rw [List.drop_eq_nil_of_le h] at hy; cases hy
    rw [drop_get hk] at hy
    injection hy with e1 e2
    rw [held_same, Rises, if_neg (by omega)]
    exact ⟨⟨hl, by omega, e1.symm⟩, ih _ e2 (by omega)⟩
  | case4 x xs y ys k h hg ih => intro last hy hl; rw [held_skip h _ _ _ hg, Rises, if_pos (by omega)]; exact ih _ hy hl
  | case5 x xs y ys k h hg ih =>
    intro last hy hl
    have hk : k < b.length := by
      rcases Nat.lt_or_ge k b.length with h | h
      · exact h
      · rw [List.drop_eq_nil_of_le h] at hy; cases hy
    rw [drop_get hk] at hy
    injection hy with e1 e2
    rw [held_turn h _ _ _ hg]; exact ih _ e2 (by omega)
theorem awake_runs : Ev (fun k => concordatlaw05_awake.f k) true := Ev.of (concordatlaw05_awake.mono) (k := 40) (by decide +kernel)
theorem rises_loop (a b m : List Int) (ha : a.length ≤ 300) (hb : b.length ≤ 300) (hm : m.length = a.length) : ∀ (d j c : Nat) (last : Int), a.length - j = d → j ≤ a.length → c ≤ j → Rises b (a.drop j) (m.drop j) last → c + many (m.drop j) = lcs a b →
    Ev (fun k => concordatlaw05_LcsRises.l0 k a b m last (c : Int) (j : Int)) true := by
  intro d
  induction d with
  | zero =>
    intro j c last hd hj hc _ hs
    rw [List.drop_eq_nil_of_le (by omega), many, Nat.add_zero] at hs
    refine Ev.step (f := fun k => (lcs_Length.f k a b).bind fun t => some ((c : Int) == t)) (fun k => ?_) (Ev.bind (length_runs a b (by omega) (by omega)) ?_)
    · simp only [concordatlaw05_LcsRises.l0]
      rw [if_neg (by omega)]
    · rw [hs]
      exact Ev.congr (f := fun _ => some true) (fun _ => by simp) (Ev.now _)
  | succ d ih =>
    intro j c last hd hj hc hr hs
    have h1 : j < a.length := by omega
    rw [drop_get h1, drop_get (show j < m.length by omega), Rises] at hr
    rw [drop_get (show j < m.length by omega), many] at hs
    by_cases hn : m.getD j 0 < 0
    · rw [if_pos hn] at hr
      rw [if_neg (by omega), Nat.zero_add] at hs
      refine Ev.step (f := fun k => concordatlaw05_LcsRises.l0 k a b m last (c : Int) ((j + 1 : Nat) : Int)) (fun k => ?_) (ih (j + 1) c last (by omega) (by omega) (by omega) hr hs)
      simp only [concordatlaw05_LcsRises.l0]
      rw [if_pos (by omega), if_pos (by omega), if_pos (show rd m (j : Int) < 0 from hn), w64s j (by omega)]
    · rw [if_neg hn] at hr
      rw [if_pos (by omega)] at hs
      obtain ⟨⟨h2, h3, h4⟩, hr⟩ := hr
      have e : rd m (j : Int) = m.getD j 0 := rfl
      refine Ev.step (f := fun k => concordatlaw05_LcsRises.l0 k a b m (m.getD j 0) ((c + 1 : Nat) : Int) ((j + 1 : Nat) : Int)) (fun k => ?_) (ih (j + 1) (c + 1) _ (by omega) (by omega) (by omega) hr (by omega))
      simp only [concordatlaw05_LcsRises.l0]
      rw [e, if_pos (by omega), if_pos (by omega), if_neg hn, if_neg (by omega), if_neg (by omega), if_pos (by omega), if_pos (by omega), if_pos (by omega), if_pos (show rd b (m.getD j 0) = rd a (j : Int) from h4), w64s j (by omega), w64s c (by omega)]
theorem LcsRises : concordatlaw05_LcsRises.Pure := by
  intro a b _ _ _ _ _ _
  refine Ev.rounds ?_
  refine Ev.bind awake_runs ?_
  have all (ha : a.length ≤ 300) (hb : b.length ≤ 300) : Ev (fun k => concordatlaw05_LcsRises.j0 k a b false) true := by
    refine Ev.step (fun k => by simp only [concordatlaw05_LcsRises.j0]; rw [if_neg (by decide)]) (Ev.bind (match_runs a b (by omega) (by omega)) ?_)
    refine Ev.congr (f := fun k => concordatlaw05_LcsRises.l0 k a b (held a b 0) (-1) ((0 : Nat) : Int) ((0 : Nat) : Int)) (fun k => if_pos (by rw [held_length])) ?_
    exact rises_loop a b _ ha hb (held_length _ _ _) _ 0 0 (-1) rfl (by omega) (by omega) (by rw [List.drop_zero, List.drop_zero]; exact held_rises b a b 0 (-1) (by simp) (by omega)) (by rw [List.drop_zero, held_many, Nat.zero_add])
  have yes : Ev (fun k => concordatlaw05_LcsRises.j0 k a b true) true := Ev.step (f := fun _ => some true) (fun k => by simp only [concordatlaw05_LcsRises.j0]; rw [if_pos trivial]) (Ev.now _)
  by_cases h1 : (a.length : Int) > 300
  · exact Ev.congr (fun k => by rw [if_pos rfl, if_pos h1]) yes
  by_cases h2 : (b.length : Int) > 300
  · exact Ev.congr (fun k => by rw [if_pos rfl, if_neg h1, decide_eq_true h2]) yes
  · exact Ev.congr (fun k => by rw [if_pos rfl, if_neg h1, decide_eq_false h2]) (all (by omega) (by omega))
end Go.Proofs.Ytjbgdoapbehopaa.Pure
