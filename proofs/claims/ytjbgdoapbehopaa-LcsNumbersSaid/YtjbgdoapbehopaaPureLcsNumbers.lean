/- The law LcsNumbers answers true for every three slices of string. -/
import Derived.Test.YtjbgdoapbehopaaPLcsNumbersx0
import Derived.Test.YtjbgdoapbehopaaPLcsNumbersx1
import Derived.Test.YtjbgdoapbehopaaPLcsNumbersx2
import Derived.Test.YtjbgdoapbehopaaPLcsNumbersx3
import Derived.Test.YtjbgdoapbehopaaPLcsNumbersx4
import Derived.Test.YtjbgdoapbehopaaPLcsNumbersx5
import Derived.Test.YtjbgdoapbehopaaPLcsNumbersx6
import Derived.Test.YtjbgdoapbehopaaPLcsNumbersx7
import Derived.Test.YtjbgdoapbehopaaPLcsNumbersx8
import Derived.Test.YtjbgdoapbehopaaPLcsNumbersx9
namespace Go.Proofs.Ytjbgdoapbehopaa.Pure
open Go.RowKit Go.Proofs.Ytjbgdoapbehopaa.PLcsNumbers Go.Proofs.YtjbgdoapbehopaaW.PrintWords Go.Proofs.YtjbgdoapbehopaaW.PrintLast Go.Proofs.YtjbgdoapbehopaaW.PrintMore
set_option linter.unusedVariables false
set_option linter.unusedSimpArgs false
/-! ### the longest common rows: mathematics alone -/
def lcs : List Int → List Int → Nat
  | [], _ => 0
  | _ :: _, [] => 0
  | x :: xs, y :: ys => if x = y then lcs xs ys + 1 else max (lcs xs (y :: ys)) (lcs (x :: xs) ys)
termination_by xs ys => xs.length + ys.length
theorem lcs_nil_l (ys : List Int) : lcs [] ys = 0 := by rw [lcs]
theorem lcs_nil_r (xs : List Int) : lcs xs [] = 0 := by cases xs <;> rw [lcs]
theorem lcs_same (x : Int) (xs ys : List Int) : lcs (x :: xs) (x :: ys) = lcs xs ys + 1 := by rw [lcs, if_pos rfl]
theorem lcs_other {x y : Int} (h : x ≠ y) (xs ys : List Int) : lcs (x :: xs) (y :: ys) = max (lcs xs (y :: ys)) (lcs (x :: xs) ys) := by rw [lcs, if_neg h]
theorem lcs_le : ∀ xs ys : List Int, lcs xs ys ≤ xs.length ∧ lcs xs ys ≤ ys.length := by
  intro xs ys
  induction xs, ys using lcs.induct with
  | case1 ys => rw [lcs_nil_l]; exact ⟨Nat.zero_le _, Nat.zero_le _⟩
  | case2 x xs => rw [lcs_nil_r]; exact ⟨Nat.zero_le _, Nat.zero_le _⟩
  | case3 x xs ys ih => rw [lcs_same]; simp only [List.length_cons]; omega
  | case4 x xs y ys h ih1 ih2 => rw [lcs_other h]; simp only [List.length_cons] at *; omega
/-- what of a row is held to be one of the other's things, from place k of that on -/
def held : List Int → List Int → Nat → List Int
  | [], _, _ => []
  | x :: xs, [], _ => List.replicate (xs.length + 1) (-1)
  | x :: xs, y :: ys, k => if x = y then (k : Int) :: held xs ys (k + 1) else if lcs xs (y :: ys) ≥ lcs (x :: xs) ys then (-1) :: held xs (y :: ys) k else held (x :: xs) ys (k + 1)
termination_by xs ys _ => xs.length + ys.length
theorem held_nil_r (xs : List Int) (k : Nat) : held xs [] k = List.replicate xs.length (-1) := by cases xs <;> rw [held] <;> simp
theorem held_same (x : Int) (xs ys : List Int) (k : Nat) : held (x :: xs) (x :: ys) k = (k : Int) :: held xs ys (k + 1) := by rw [held, if_pos rfl]
theorem held_skip {x y : Int} (h : x ≠ y) (xs ys : List Int) (k : Nat) (hg : lcs xs (y :: ys) ≥ lcs (x :: xs) ys) : held (x :: xs) (y :: ys) k = (-1) :: held xs (y :: ys) k := by rw [held, if_neg h, if_pos hg]
theorem held_turn {x y : Int} (h : x ≠ y) (xs ys : List Int) (k : Nat) (hg : ¬ lcs xs (y :: ys) ≥ lcs (x :: xs) ys) : held (x :: xs) (y :: ys) k = held (x :: xs) ys (k + 1) := by rw [held, if_neg h, if_neg hg]
theorem held_length : ∀ (xs ys : List Int) (k : Nat), (held xs ys k).length = xs.length := by
  intro xs ys k
  induction xs, ys, k using held.induct with
  | case1 ys k => rw [held]
  | case2 x xs k => rw [held_nil_r]; simp
  | case3 k x xs ys ih => rw [held_same]; simp [ih]
  | case4 x xs y ys k h hg ih => rw [held_skip h _ _ _ hg]; simp [ih]
  | case5 x xs y ys k h hg ih => rw [held_turn h _ _ _ hg]; exact ih
/-- how many are held -/
def many : List Int → Nat
  | [] => 0
  | m :: l => (if m ≥ 0 then 1 else 0) + many l
theorem many_none (n : Nat) : many (List.replicate n (-1)) = 0 := by
  induction n with
  | zero => rfl
  | succ n ih => rw [List.replicate_succ, many, ih]; simp
theorem held_many : ∀ (xs ys : List Int) (k : Nat), many (held xs ys k) = lcs xs ys := by
  intro xs ys k
  induction xs, ys, k using held.induct with
  | case1 ys k => rw [held, lcs_nil_l]; rfl
  | case2 x xs k => rw [held_nil_r, lcs_nil_r]; exact many_none _
  | case3 k x xs ys ih => rw [held_same, many, ih, lcs_same, if_pos (by omega)]; omega
  | case4 x xs y ys k h hg ih => rw [held_skip h _ _ _ hg, many, ih, lcs_other h, if_neg (by omega)]; omega
  | case5 x xs y ys k h hg ih => rw [held_turn h _ _ _ hg, ih, lcs_other h]; omega
theorem many_le (l : List Int) : many l ≤ l.length := by
  induction l with
  | nil => exact Nat.le_refl _
  | cons m l ih => rw [many, List.length_cons]; split <;> omega
/-! ### what the printed functions come to -/
theorem w64 {x : Int} (h0 : -9223372036854775808 ≤ x) (h1 : x ≤ 9223372036854775807) : wrap64 x = x := by unfold wrap64; omega
theorem w32 {x : Int} (h0 : -2147483648 ≤ x) (h1 : x ≤ 2147483647) : wrap32 x = x := by unfold wrap32; omega
theorem rd_nat (xs : List Int) (i : Nat) : rd xs (i : Int) = xs.getD i 0 := rfl
theorem getD_set_same {α : Type} {xs : List α} {i : Nat} (h : i < xs.length) (v d : α) : (xs.set i v).getD i d = v := by
  rw [List.getD_eq_getElem?_getD, List.getElem?_set_self h]; rfl
theorem getD_set_other {α : Type} {xs : List α} {i j : Nat} (h : i ≠ j) (v d : α) : (xs.set i v).getD j d = xs.getD j d := by
  rw [List.getD_eq_getElem?_getD, List.getD_eq_getElem?_getD, List.getElem?_set_ne h]
theorem drop_get {xs : List Int} {i : Nat} (h : i < xs.length) : xs.drop i = xs.getD i 0 :: xs.drop (i + 1) := by
  rw [List.drop_eq_getElem_cons h, List.getD_eq_getElem?_getD, List.getElem?_eq_getElem h]; rfl
/-- the table's entry -/
def T (a b : List Int) (i k : Nat) : Nat := lcs (a.drop i) (b.drop k)
theorem T_le (a b : List Int) (i k : Nat) : T a b i k ≤ a.length := Nat.le_trans (lcs_le _ _).1 (by simp)
theorem T_end_l (a b : List Int) (k : Nat) {i : Nat} (h : a.length ≤ i) : T a b i k = 0 := by unfold T; rw [List.drop_eq_nil_of_le h, lcs_nil_l]
theorem T_end_r (a b : List Int) (i : Nat) {k : Nat} (h : b.length ≤ k) : T a b i k = 0 := by unfold T; rw [List.drop_eq_nil_of_le h, lcs_nil_r]
theorem T_same {a b : List Int} {i k : Nat} (hi : i < a.length) (hk : k < b.length) (h : a.getD i 0 = b.getD k 0) : T a b i k = T a b (i + 1) (k + 1) + 1 := by
  unfold T; rw [drop_get hi, drop_get hk, h, lcs_same]
theorem T_other {a b : List Int} {i k : Nat} (hi : i < a.length) (hk : k < b.length) (h : ¬ a.getD i 0 = b.getD k 0) : T a b i k = max (T a b (i + 1) k) (T a b i (k + 1)) := by
  unfold T; rw [drop_get hi, drop_get hk, lcs_other h]
/-- row i of the table is told from place k on -/
def RowFrom (a b : List Int) (i k : Nat) (r : List Int) : Prop := r.length = b.length + 1 ∧ ∀ j, k ≤ j → j ≤ b.length → r.getD j 0 = (T a b i j : Int)
def TabFrom (a b : List Int) (i : Nat) (t : List (List Int)) : Prop := t.length = a.length + 1 ∧ ∀ j, i ≤ j → j ≤ a.length → RowFrom a b j 0 (t.getD j [])
theorem row_zero (a b : List Int) (n : Nat) (hn : n = b.length + 1) {i : Nat} (hi : a.length ≤ i) : RowFrom a b i 0 (List.replicate n 0) := by
  subst hn
  refine ⟨by simp, fun j _ hj => ?_⟩
  rw [T_end_l a b j hi, List.getD_eq_getElem?_getD, List.getElem?_replicate]; split <;> rfl
theorem row_last (a b : List Int) (n : Nat) (hn : n = b.length + 1) (i : Nat) : RowFrom a b i b.length (List.replicate n 0) := by
  subst hn
  refine ⟨by simp, fun j h1 h2 => ?_⟩
  rw [T_end_r a b i h1, List.getD_eq_getElem?_getD, List.getElem?_replicate]; split <;> rfl
theorem row_step {a b : List Int} {i k : Nat} {r : List Int} (h : RowFrom a b i (k + 1) r) (hk : k < b.length) : RowFrom a b i k (r.set k (T a b i k : Int)) := by
  refine ⟨by simpa using h.1, fun j h1 h2 => ?_⟩
  by_cases e : k = j
  · subst e; exact getD_set_same (by rw [h.1]; omega) _ _
  · rw [getD_set_other e]; exact h.2 j (by omega) h2
theorem tab_set {a b : List Int} {i : Nat} {t : List (List Int)} (h : TabFrom a b (i + 1) t) (hi : i ≤ a.length) {r : List Int} (hr : RowFrom a b i 0 r) : TabFrom a b i (t.set i r) := by
  refine ⟨by simpa using h.1, fun j h1 h2 => ?_⟩
  by_cases e : i = j
  · subst e; rw [getD_set_same (by rw [h.1]; omega)]; exact hr
  · rw [getD_set_other e]; exact h.2 j (by omega) h2
theorem tab_over {a b : List Int} {i : Nat} {t : List (List Int)} (h : TabFrom a b (i + 1) t) (r : List Int) : TabFrom a b (i + 1) (t.set i r) := by
  refine ⟨by simpa using h.1, fun j h1 h2 => ?_⟩
  rw [getD_set_other (by omega)]; exact h.2 j h1 h2
theorem set_set {α : Type} (xs : List α) (i : Nat) (u v : α) : (xs.set i u).set i v = xs.set i v := by simp

theorem none_runs (n : Nat) (hn : n ≤ 3000) : Ev (fun k => lcs_none.f k (n : Int)) (List.replicate n (-1)) := by
  have loop : ∀ (d j : Nat) (x : List Int), n - j = d → j ≤ n → x.length = n → (∀ i, i < j → x.getD i 0 = -1) → Ev (fun k => lcs_none.l0 k x (n : Int) (j : Int)) (List.replicate n (-1)) := by
    intro d
    induction d with
    | zero =>
      intro j x hd hj hx hp
      refine Ev.step (f := fun _ => some (List.replicate n (-1))) (fun k => ?_) (Ev.now _)
      simp only [lcs_none.l0]
      rw [if_neg (by omega)]
      refine congrArg some (List.ext_getElem? fun i => ?_)
      by_cases hi : i < n
      · have := hp i (by omega)
        rw [List.getD_eq_getElem?_getD] at this
        rw [List.getElem?_replicate, if_pos hi]
        rw [List.getElem?_eq_getElem (by omega)] at this ⊢
        simpa using this
      · rw [List.getElem?_eq_none (by omega), List.getElem?_replicate, if_neg hi]
    | succ d ih =>
      intro j x hd hj hx hp
      refine Ev.step (f := fun k => lcs_none.l0 k (x.set j (-1)) (n : Int) ((j + 1 : Nat) : Int)) (fun k => ?_) (ih (j + 1) _ (by omega) (by omega) (by simpa using hx) (fun i hi => ?_))
      · simp only [lcs_none.l0]
        rw [if_pos (by omega), if_pos (by omega), if_pos (by omega), w64 (by omega) (by omega)]
        rfl
      · by_cases e : j = i
        · subst e; exact getD_set_same (by omega) _ _
        · rw [getD_set_other e]; exact hp i (by omega)
  refine Ev.congr (f := fun k => lcs_none.l0 k (List.replicate n 0) (n : Int) 0) (fun k => ?_) (loop n 0 _ (by omega) (by omega) (by simp) (fun i hi => by omega))
  simp only [lcs_none.f]
  rw [if_pos (by omega), if_pos (by omega)]
  rfl
theorem tab_of_row {a b : List Int} {i : Nat} {t : List (List Int)} (h : TabFrom a b (i + 1) t) (hr : RowFrom a b i 0 (t.getD i [])) : TabFrom a b i t := by
  refine ⟨h.1, fun j h1 h2 => ?_⟩
  by_cases e : i = j
  · subst e; exact hr
  · exact h.2 j (by omega) h2
theorem mx_nat (x y : Nat) : mx (x : Int) (y : Int) = ((max x y : Nat) : Int) := by unfold mx; split <;> omega
theorem left_runs (a b : List Int) (ha : a.length ≤ 3000) (hb : b.length ≤ 3000) : ∃ t, TabFrom a b 0 t ∧ Ev (fun k => lcs_left.f k a b) t := by
  have outer : ∀ (i : Nat), i ≤ a.length → ∀ t, TabFrom a b i t → ∃ t', TabFrom a b 0 t' ∧ Ev (fun k => lcs_left.l0 k a b t ((i : Int) - 1)) t' := by
    intro i
    induction i with
    | zero =>
      intro _ t ht
      refine ⟨t, ht, Ev.step (f := fun _ => some t) (fun k => ?_) (Ev.now _)⟩
      simp only [lcs_left.l0]
      rw [if_neg (by omega)]
    | succ i ihi =>
      intro hi t ht
      have inner : ∀ (j : Nat), j ≤ b.length → ∀ t, TabFrom a b (i + 1) t → RowFrom a b i j (t.getD i []) → ∃ t', TabFrom a b 0 t' ∧ Ev (fun k => lcs_left.l1 k a b t (i : Int) ((j : Int) - 1)) t' := by
        intro j
        induction j with
        | zero =>
          intro _ t ht hr
          obtain ⟨t', h1, h2⟩ := ihi (by omega) t (tab_of_row ht hr)
          refine ⟨t', h1, Ev.step (f := fun k => lcs_left.l0 k a b t ((i : Int) - 1)) (fun k => ?_) h2⟩
          simp only [lcs_left.l1]
          rw [if_neg (by omega), w64 (by omega) (by omega)]
        | succ j ihj =>
          intro hj t ht hr
          have hrow := ht.2 (i + 1) (Nat.le_refl _) hi
          have hlen := ht.1
          obtain ⟨t', h1, h2⟩ := ihj (by omega) (t.set i ((t.getD i []).set j (T a b i j : Int))) (tab_over ht _) (by rw [getD_set_same (by omega)]; exact row_step hr (by omega))
          refine ⟨t', h1, Ev.step (f := fun k => lcs_left.l1 k a b (t.set i ((t.getD i []).set j (T a b i j : Int))) (i : Int) ((j : Int) - 1)) (fun k => ?_) h2⟩
          have e1 : ((j + 1 : Nat) : Int) - 1 = (j : Int) := by omega
          have e2 : wrap64 ((i : Int) + 1) = ((i + 1 : Nat) : Int) := by rw [w64 (by omega) (by omega)]; omega
          have e3 : wrap64 ((j : Int) + 1) = ((j + 1 : Nat) : Int) := by rw [w64 (by omega) (by omega)]; omega
          have e4 : wrap64 ((j : Int) - 1) = (j : Int) - 1 := w64 (by omega) (by omega)
          have r1 : rd_L2 t ((i + 1 : Nat) : Int) = t.getD (i + 1) [] := rfl
          have r0 : rd_L2 t (i : Int) = t.getD i [] := rfl
          have hT := T_le a b (i + 1) (j + 1)
          simp only [lcs_left.l1]
          rw [e1, e2, e3, e4, r1, r0, if_pos (by omega), if_pos (by omega), if_pos (by omega), if_pos (by omega), if_pos (by omega)]
          by_cases he : a.getD i 0 = b.getD j 0
          · rw [if_pos (show rd a (i : Int) = rd b (j : Int) from he), if_pos (by omega), if_pos (by omega), if_pos (by omega), if_pos (by omega), if_pos (by rw [hrow.1]; omega), if_pos (by rw [hr.1]; omega)]
            simp only [rd_nat, Int.toNat_natCast]
            rw [hrow.2 (j + 1) (by omega) (by omega), w32 (by omega) (by omega), T_same (by omega) (by omega) he]
            rfl
          · rw [if_neg (show ¬ rd a (i : Int) = rd b (j : Int) from he), if_pos (by omega), if_pos (by omega), if_pos (by omega), if_pos (by rw [hrow.1]; omega), if_pos (by omega), if_pos (by rw [hr.1]; omega), if_pos (by rw [hr.1]; omega)]
            simp only [rd_nat, Int.toNat_natCast]
            rw [hrow.2 j (by omega) (by omega), hr.2 (j + 1) (by omega) (by omega), mx_nat, T_other (by omega) (by omega) he]
      have hlen := ht.1
      obtain ⟨t', h1, h2⟩ := inner b.length (Nat.le_refl _) (t.set i (List.replicate (wrap64 ((b.length : Int) + 1)).toNat 0)) (tab_over ht _) (by rw [getD_set_same (by omega)]; exact row_last a b _ (by rw [w64 (by omega) (by omega)]; omega) i)
      refine ⟨t', h1, Ev.step (f := fun k => lcs_left.l1 k a b (t.set i (List.replicate (wrap64 ((b.length : Int) + 1)).toNat 0)) (i : Int) ((b.length : Int) - 1)) (fun k => ?_) h2⟩
      have e1 : ((i + 1 : Nat) : Int) - 1 = (i : Int) := by omega
      have e2 : wrap64 ((b.length : Int) - 1) = (b.length : Int) - 1 := w64 (by omega) (by omega)
      have e3 : wrap64 ((b.length : Int) + 1) = (b.length : Int) + 1 := w64 (by omega) (by omega)
      simp only [lcs_left.l0]
      rw [e1, e2, e3, if_pos (by omega), if_pos (by omega), if_pos (by omega), if_pos (by omega), if_pos (by omega)]
      rfl
  have e3 : wrap64 ((b.length : Int) + 1) = (b.length : Int) + 1 := w64 (by omega) (by omega)
  have e4 : wrap64 ((a.length : Int) + 1) = (a.length : Int) + 1 := w64 (by omega) (by omega)
  have e5 : wrap64 ((a.length : Int) - 1) = (a.length : Int) - 1 := w64 (by omega) (by omega)
  have hl : (List.replicate ((a.length : Int) + 1).toNat ([] : List Int)).length = a.length + 1 := by rw [List.length_replicate]; omega
  obtain ⟨t', h1, h2⟩ := outer a.length (Nat.le_refl _) ((List.replicate ((a.length : Int) + 1).toNat []).set a.length (List.replicate ((b.length : Int) + 1).toNat 0)) ⟨by rw [List.length_set, hl], fun j h1 h2 => by
    obtain rfl : j = a.length := by omega
    rw [getD_set_same (by omega)]
    exact row_zero a b _ (by omega) (Nat.le_refl _)⟩
  refine ⟨t', h1, Ev.congr (fun k => ?_) h2⟩
  simp only [lcs_left.f]
  rw [e3, e4, e5, if_pos (by omega), if_pos (by omega), Option.bind_some, if_pos (by omega), if_pos (by omega), if_pos (by omega), if_pos (by rw [hl]; omega)]
  rfl
theorem w64s (i : Nat) (h : i ≤ 1000000000) : wrap64 ((i : Int) + 1) = ((i + 1 : Nat) : Int) := by rw [w64 (by omega) (by omega)]; omega
theorem set_mid (pre : List Int) (n : Nat) (v : Int) : (pre ++ List.replicate (n + 1) (-1)).set pre.length v = (pre ++ [v]) ++ List.replicate n (-1) := by
  rw [List.set_append_right _ _ (Nat.le_refl _), Nat.sub_self, List.replicate_succ, List.set_cons_zero, List.append_assoc]
  rfl
theorem match_loop (a b : List Int) (ha : a.length ≤ 3000) (hb : b.length ≤ 3000) (t : List (List Int)) (ht : TabFrom a b 0 t) : ∀ (d i j : Nat) (pre : List Int), (a.length - i) + (b.length - j) = d → i ≤ a.length → j ≤ b.length → pre.length = i →
    Ev (fun k => lcs_Match.l0 k a b (pre ++ List.replicate (a.length - i) (-1)) t (i : Int) (j : Int)) (pre ++ held (a.drop i) (b.drop j) j) := by
  intro d
  induction d using Nat.strongRecOn with
  | _ d ih =>
  intro i j pre hd hi hj hp
  by_cases h1 : i < a.length
  · by_cases h2 : j < b.length
    · have hn : a.length - i = (a.length - (i + 1)) + 1 := (Nat.succ_pred_eq_of_pos (Nat.sub_pos_of_lt h1)).symm
      have hlen := ht.1
      have r1 := ht.2 (i + 1) (Nat.zero_le _) (by omega)
      have r0 := ht.2 i (Nat.zero_le _) (by omega)
      have q1 : rd_L2 t ((i + 1 : Nat) : Int) = t.getD (i + 1) [] := rfl
      have q0 : rd_L2 t (i : Int) = t.getD i [] := rfl
      have hol : (pre ++ List.replicate (a.length - i) (-1)).length = a.length := by rw [List.length_append, List.length_replicate]; omega
      refine Ev.step (f := fun k => lcs_Match.j2 k a b (pre ++ List.replicate (a.length - i) (-1)) t (i : Int) (j : Int) true) (fun k => ?_) ?_
      · simp only [lcs_Match.l0]
        rw [if_pos (by omega), decide_eq_true (by omega)]
      by_cases he : a.getD i 0 = b.getD j 0
      · refine Ev.step (f := fun k => lcs_Match.l0 k a b ((pre ++ [(j : Int)]) ++ List.replicate (a.length - (i + 1)) (-1)) t ((i + 1 : Nat) : Int) ((j + 1 : Nat) : Int)) (fun k => ?_) ?_
        · simp only [lcs_Match.j2]
          rw [if_pos trivial, if_pos (by omega), if_pos (by omega), if_pos (by omega), if_pos (by omega), if_pos (show rd a (i : Int) = rd b (j : Int) from he), if_pos (by rw [hol]; omega), w64s i (by omega), w64s j (by omega)]
          rw [Int.toNat_natCast, hn, ← hp, set_mid, hp]
        · have := ih ((a.length - (i + 1)) + (b.length - (j + 1))) (by omega) (i + 1) (j + 1) (pre ++ [(j : Int)]) rfl (by omega) (by omega) (by rw [List.length_append, hp]; rfl)
          rw [drop_get h1, drop_get h2, he, held_same]
          simpa using this
      · by_cases hg : T a b (i + 1) j ≥ T a b i (j + 1)
        · refine Ev.step (f := fun k => lcs_Match.l0 k a b ((pre ++ [-1]) ++ List.replicate (a.length - (i + 1)) (-1)) t ((i + 1 : Nat) : Int) (j : Int)) (fun k => ?_) ?_
          · simp only [lcs_Match.j2]
            rw [if_pos trivial, if_pos (by omega), if_pos (by omega), if_pos (by omega), if_pos (by omega), if_neg (show ¬ rd a (i : Int) = rd b (j : Int) from he), w64s i (by omega), w64s j (by omega), q1, q0, if_pos (by omega), if_pos (by omega), if_pos (by rw [r1.1]; omega), if_pos (by omega), if_pos (by omega), if_pos (by rw [r0.1]; omega), if_pos (by rw [rd_nat, rd_nat, r1.2 j (by omega) (by omega), r0.2 (j + 1) (by omega) (by omega)]; omega)]
            rw [show a.length - i = (a.length - (i + 1)) + 1 by omega, List.replicate_succ, List.append_assoc]
            rfl
          · have := ih ((a.length - (i + 1)) + (b.length - j)) (by omega) (i + 1) j (pre ++ [-1]) rfl (by omega) (by omega) (by rw [List.length_append, hp]; rfl)
            rw [drop_get h1, drop_get h2, held_skip he _ _ _ (by rw [← drop_get h1, ← drop_get h2]; exact hg), ← drop_get h2]
            simpa using this
        · refine Ev.step (f := fun k => lcs_Match.l0 k a b (pre ++ List.replicate (a.length - i) (-1)) t (i : Int) ((j + 1 : Nat) : Int)) (fun k => ?_) ?_
          · simp only [lcs_Match.j2]
            rw [if_pos trivial, if_pos (by omega), if_pos (by omega), if_pos (by omega), if_pos (by omega), if_neg (show ¬ rd a (i : Int) = rd b (j : Int) from he), w64s i (by omega), w64s j (by omega), q1, q0, if_pos (by omega), if_pos (by omega), if_pos (by rw [r1.1]; omega), if_pos (by omega), if_pos (by omega), if_pos (by rw [r0.1]; omega), if_neg (by rw [rd_nat, rd_nat, r1.2 j (by omega) (by omega), r0.2 (j + 1) (by omega) (by omega)]; omega)]
          · have := ih ((a.length - i) + (b.length - (j + 1))) (by omega) i (j + 1) pre rfl (by omega) (by omega) hp
            rw [drop_get h1, drop_get h2, held_turn he _ _ _ (by rw [← drop_get h1, ← drop_get h2]; exact hg), ← drop_get h1]
            exact this
    · refine Ev.step (f := fun k => lcs_Match.j2 k a b (pre ++ List.replicate (a.length - i) (-1)) t (i : Int) (j : Int) false) (fun k => ?_) (Ev.step (f := fun _ => some (pre ++ List.replicate (a.length - i) (-1))) (fun k => ?_) ?_)
      · simp only [lcs_Match.l0]
        rw [if_pos (by omega), decide_eq_false (by omega)]
      · simp only [lcs_Match.j2]
        rw [if_neg (by decide)]
      · rw [List.drop_eq_nil_of_le (by omega : b.length ≤ j), held_nil_r, List.length_drop]
        exact Ev.now _
  · refine Ev.step (f := fun k => lcs_Match.j2 k a b (pre ++ List.replicate (a.length - i) (-1)) t (i : Int) (j : Int) false) (fun k => ?_) (Ev.step (f := fun _ => some (pre ++ List.replicate (a.length - i) (-1))) (fun k => ?_) ?_)
    · simp only [lcs_Match.l0]
      rw [if_neg (by omega)]
    · simp only [lcs_Match.j2]
      rw [if_neg (by decide)]
    · rw [List.drop_eq_nil_of_le (by omega : a.length ≤ i), show a.length - i = 0 by omega, held]
      exact Ev.now _
theorem match_runs (a b : List Int) (ha : a.length ≤ 2000) (hb : b.length ≤ 2000) : Ev (fun k => lcs_Match.f k a b) (held a b 0) := by
  obtain ⟨t, ht, he⟩ := left_runs a b (by omega) (by omega)
  refine Ev.bind (f := fun k t140 => if (a.length : Int) > 2000 then lcs_Match.j0 k a b t140 true else lcs_Match.j0 k a b t140 (decide ((b.length : Int) > 2000))) (none_runs a.length (by omega)) ?_
  refine Ev.congr (f := fun k => lcs_Match.j0 k a b (List.replicate a.length (-1)) false) (fun k => ?_) (Ev.step (f := fun k => (lcs_left.f k a b).bind fun t146 => lcs_Match.l0 k a b (List.replicate a.length (-1)) t146 0 0) (fun k => ?_) (Ev.bind he ?_))
  · show (if (a.length : Int) > 2000 then _ else _) = _
    rw [if_neg (by omega), decide_eq_false (by omega)]
  · simp only [lcs_Match.j0]
    rw [if_neg (by decide)]
  · have := match_loop a b (by omega) (by omega) t ht _ 0 0 [] rfl (by omega) (by omega) rfl
    simpa using this
theorem length_loop (l : List Int) (hl : l.length ≤ 3000) : ∀ (d j c : Nat), l.length - j = d → j ≤ l.length → c ≤ j → Ev (fun k => lcs_Length.l0 k (c : Int) l (l.length : Int) (j : Int)) ((c + many (l.drop j) : Nat) : Int) := by
  intro d
  induction d with
  | zero =>
    intro j c hd hj hc
    refine Ev.step (f := fun _ => some (c : Int)) (fun k => ?_) ?_
    · simp only [lcs_Length.l0]
      rw [if_neg (by omega)]
    · rw [List.drop_eq_nil_of_le (by omega)]; exact Ev.now _
  | succ d ih =>
    intro j c hd hj hc
    rw [drop_get (show j < l.length by omega), many]
    by_cases hg : l.getD j 0 ≥ 0
    · refine Ev.step (f := fun k => lcs_Length.l0 k ((c + 1 : Nat) : Int) l (l.length : Int) ((j + 1 : Nat) : Int)) (fun k => ?_) ?_
      · simp only [lcs_Length.l0]
        rw [if_pos (by omega), if_pos (by omega), if_pos (by omega), if_pos (show rd l (j : Int) ≥ 0 from hg), w64s j (by omega), w64s c (by omega)]
      · rw [if_pos hg, ← Nat.add_assoc]; exact ih (j + 1) (c + 1) (by omega) (by omega) (by omega)
    · refine Ev.step (f := fun k => lcs_Length.l0 k (c : Int) l (l.length : Int) ((j + 1 : Nat) : Int)) (fun k => ?_) ?_
      · simp only [lcs_Length.l0]
        rw [if_pos (by omega), if_pos (by omega), if_pos (by omega), if_neg (show ¬ rd l (j : Int) ≥ 0 from hg), w64s j (by omega)]
      · rw [if_neg hg, Nat.zero_add]; exact ih (j + 1) c (by omega) (by omega) (by omega)
theorem length_of {a b m : List Int} (h : Ev (fun k => lcs_Match.f k a b) m) (hl : m.length ≤ 3000) : Ev (fun k => lcs_Length.f k a b) (many m : Int) :=
  Ev.bind (f := fun k t156 => lcs_Length.l0 k 0 t156 (t156.length : Int) 0) h (by simpa using length_loop m hl _ 0 0 rfl (by omega) (by omega))
theorem length_runs (a b : List Int) (ha : a.length ≤ 2000) (hb : b.length ≤ 2000) : Ev (fun k => lcs_Length.f k a b) (lcs a b : Int) := by
  rw [← held_many a b 0]
  exact length_of (match_runs a b ha hb) (by rw [held_length]; omega)
/-! ### the reference -/
theorem table_runs (a b : List Int) (ha : a.length ≤ 3000) (hb : b.length ≤ 3000) : ∃ t, TabFrom a b 0 t ∧ Ev (fun k => r05_table.f k a b) t := by
  have e3 : wrap64 ((b.length : Int) + 1) = (b.length : Int) + 1 := w64 (by omega) (by omega)
  have e4 : wrap64 ((a.length : Int) + 1) = (a.length : Int) + 1 := w64 (by omega) (by omega)
  have e5 : wrap64 ((a.length : Int) - 1) = (a.length : Int) - 1 := w64 (by omega) (by omega)
  have e6 : wrap64 ((b.length : Int) - 1) = (b.length : Int) - 1 := w64 (by omega) (by omega)
  have outer : ∀ (i : Nat), i ≤ a.length → ∀ t, TabFrom a b i t → (∀ q, q < i → RowFrom a b q b.length (t.getD q [])) → ∃ t', TabFrom a b 0 t' ∧ Ev (fun k => r05_table.l1 k a b t ((i : Int) - 1)) t' := by
    intro i
    induction i with
    | zero =>
      intro _ t ht _
      refine ⟨t, ht, Ev.step (f := fun _ => some t) (fun k => ?_) (Ev.now _)⟩
      simp only [r05_table.l1]
      rw [if_neg (by omega)]
    | succ i ihi =>
      intro hi t ht hz
      have inner : ∀ (j : Nat), j ≤ b.length → ∀ t, TabFrom a b (i + 1) t → (∀ q, q < i → RowFrom a b q b.length (t.getD q [])) → RowFrom a b i j (t.getD i []) → ∃ t', TabFrom a b 0 t' ∧ Ev (fun k => r05_table.l2 k a b t (i : Int) ((j : Int) - 1)) t' := by
        intro j
        induction j with
        | zero =>
          intro _ t ht hz hr
          obtain ⟨t', h1, h2⟩ := ihi (by omega) t (tab_of_row ht hr) hz
          refine ⟨t', h1, Ev.step (f := fun k => r05_table.l1 k a b t ((i : Int) - 1)) (fun k => ?_) h2⟩
          simp only [r05_table.l2]
          rw [if_neg (by omega), w64 (by omega) (by omega)]
        | succ j ihj =>
          intro hj t ht hz hr
          have hrow := ht.2 (i + 1) (Nat.le_refl _) hi
          have hlen := ht.1
          obtain ⟨t', h1, h2⟩ := ihj (by omega) (t.set i ((t.getD i []).set j (T a b i j : Int))) (tab_over ht _) (fun q hq => by rw [getD_set_other (by omega)]; exact hz q hq) (by rw [getD_set_same (by omega)]; exact row_step hr (by omega))
          refine ⟨t', h1, Ev.step (f := fun k => r05_table.l2 k a b (t.set i ((t.getD i []).set j (T a b i j : Int))) (i : Int) ((j : Int) - 1)) (fun k => ?_) h2⟩
          have e1 : ((j + 1 : Nat) : Int) - 1 = (j : Int) := by omega
          have r1 : rd_L6 t ((i + 1 : Nat) : Int) = t.getD (i + 1) [] := rfl
          have r0 : rd_L6 t (i : Int) = t.getD i [] := rfl
          have hT := T_le a b (i + 1) (j + 1)
          simp only [r05_table.l2]
          rw [e1, w64s i (by omega), w64s j (by omega), w64 (x := (j : Int) - 1) (by omega) (by omega), r1, r0, if_pos (by omega), if_pos (by omega), if_pos (by omega), if_pos (by omega), if_pos (by omega)]
          by_cases he : a.getD i 0 = b.getD j 0
          · rw [if_pos (show rd a (i : Int) = rd b (j : Int) from he), if_pos (by omega), if_pos (by omega), if_pos (by omega), if_pos (by omega), if_pos (by rw [hrow.1]; omega), if_pos (by rw [hr.1]; omega)]
            simp only [rd_nat, Int.toNat_natCast]
            rw [hrow.2 (j + 1) (by omega) (by omega), w64 (by omega) (by omega), T_same (by omega) (by omega) he]
            rfl
          · rw [if_neg (show ¬ rd a (i : Int) = rd b (j : Int) from he), if_pos (by omega), if_pos (by omega), if_pos (by omega), if_pos (by rw [hrow.1]; omega), if_pos (by omega), if_pos (by rw [hr.1]; omega), if_pos (by rw [hr.1]; omega)]
            simp only [rd_nat, Int.toNat_natCast]
            rw [hrow.2 j (by omega) (by omega), hr.2 (j + 1) (by omega) (by omega), mx_nat, T_other (by omega) (by omega) he]
      obtain ⟨t', h1, h2⟩ := inner b.length (Nat.le_refl _) t ht (fun q hq => hz q (by omega)) (hz i (by omega))
      refine ⟨t', h1, Ev.step (f := fun k => r05_table.l2 k a b t (i : Int) ((b.length : Int) - 1)) (fun k => ?_) h2⟩
      have e1 : ((i + 1 : Nat) : Int) - 1 = (i : Int) := by omega
      simp only [r05_table.l1]
      rw [e1, e6, if_pos (by omega)]
  have fill : ∀ (d i : Nat) (t : List (List Int)), a.length + 1 - i = d → i ≤ a.length + 1 → t.length = a.length + 1 → (∀ q, q < i → t.getD q [] = List.replicate (b.length + 1) 0) → ∃ t', TabFrom a b 0 t' ∧ Ev (fun k => r05_table.l0 k a b t (i : Int)) t' := by
    intro d
    induction d with
    | zero =>
      intro i t hd hi hl hz
      obtain rfl : i = a.length + 1 := by clear e3 e4 e5 e6; omega
      obtain ⟨t', h1, h2⟩ := outer a.length (Nat.le_refl _) t ⟨hl, fun j h1 h2 => by rw [hz j (by clear e3 e4 e5 e6; omega)]; exact row_zero a b _ rfl h1⟩ (fun q hq => by rw [hz q (by clear e3 e4 e5 e6; omega)]; exact row_last a b _ rfl q)
      refine ⟨t', h1, Ev.step (f := fun k => r05_table.l1 k a b t ((a.length : Int) - 1)) (fun k => ?_) h2⟩
      simp only [r05_table.l0]
      rw [if_neg (by clear e3 e4 e5 e6; omega), e5]
    | succ d ih =>
      intro i t hd hi hl hz
      obtain ⟨t', h1, h2⟩ := ih (i + 1) (t.set i (List.replicate (b.length + 1) 0)) (by clear e3 e4 e5 e6; omega) (by clear e3 e4 e5 e6; omega) (by rw [List.length_set]; exact hl) (fun q hq => by
        by_cases e : i = q
        · subst e; exact getD_set_same (by clear e3 e4 e5 e6; omega) _ _
        · rw [getD_set_other e]; exact hz q (by clear e3 e4 e5 e6; omega))
      refine ⟨t', h1, Ev.step (f := fun k => r05_table.l0 k a b (t.set i (List.replicate (b.length + 1) 0)) ((i + 1 : Nat) : Int)) (fun k => ?_) h2⟩
      simp only [r05_table.l0]
      rw [e3, if_pos (by clear e3 e4 e5 e6; omega), if_pos (by clear e3 e4 e5 e6; omega), if_pos (by clear e3 e4 e5 e6; omega), if_pos (by clear e3 e4 e5 e6; omega), if_pos (by clear e3 e4 e5 e6; omega), w64s i (by clear e3 e4 e5 e6; omega)]
      rfl
  obtain ⟨t', h1, h2⟩ := fill _ 0 (List.replicate (a.length + 1) []) rfl (Nat.zero_le _) (by simp) (fun q hq => by omega)
  refine ⟨t', h1, Ev.congr (fun k => ?_) h2⟩
  simp only [r05_table.f]
  rw [e4, if_pos (by clear e3 e4 e5 e6; omega), if_pos (by clear e3 e4 e5 e6; omega)]
  rfl
theorem ref_loop (a b : List Int) (ha : a.length ≤ 3000) (hb : b.length ≤ 3000) (t : List (List Int)) (ht : TabFrom a b 0 t) : ∀ (d i j : Nat) (pre : List Int), (a.length - i) + (b.length - j) = d → i ≤ a.length → j ≤ b.length → pre.length = i →
    Ev (fun k => r05_Match.l3 k a b (pre ++ List.replicate (a.length - i) (-1)) t (i : Int) (j : Int)) (pre ++ held (a.drop i) (b.drop j) j) := by
  intro d
  induction d using Nat.strongRecOn with
  | _ d ih =>
  intro i j pre hd hi hj hp
  by_cases h1 : i < a.length
  · by_cases h2 : j < b.length
    · have hn : a.length - i = (a.length - (i + 1)) + 1 := (Nat.succ_pred_eq_of_pos (Nat.sub_pos_of_lt h1)).symm
      have hlen := ht.1
      have r1 := ht.2 (i + 1) (Nat.zero_le _) (by omega)
      have r0 := ht.2 i (Nat.zero_le _) (by omega)
      have q1 : rd_L6 t ((i + 1 : Nat) : Int) = t.getD (i + 1) [] := rfl
      have q0 : rd_L6 t (i : Int) = t.getD i [] := rfl
      have hol : (pre ++ List.replicate (a.length - i) (-1)).length = a.length := by rw [List.length_append, List.length_replicate]; omega
      refine Ev.step (f := fun k => r05_Match.j6 k a b (pre ++ List.replicate (a.length - i) (-1)) t (i : Int) (j : Int) true) (fun k => ?_) ?_
      · simp only [r05_Match.l3]
        rw [if_pos (by omega), decide_eq_true (by omega)]
      by_cases he : a.getD i 0 = b.getD j 0
      · refine Ev.step (f := fun k => r05_Match.l3 k a b ((pre ++ [(j : Int)]) ++ List.replicate (a.length - (i + 1)) (-1)) t ((i + 1 : Nat) : Int) ((j + 1 : Nat) : Int)) (fun k => ?_) ?_
        · simp only [r05_Match.j6]
          rw [if_pos trivial, if_pos (by omega), if_pos (by omega), if_pos (by omega), if_pos (by omega), if_pos (show rd a (i : Int) = rd b (j : Int) from he), if_pos (by rw [hol]; omega), w64s i (by omega), w64s j (by omega)]
          rw [Int.toNat_natCast, hn, ← hp, set_mid, hp]
        · have := ih ((a.length - (i + 1)) + (b.length - (j + 1))) (by omega) (i + 1) (j + 1) (pre ++ [(j : Int)]) rfl (by omega) (by omega) (by rw [List.length_append, hp]; rfl)
          rw [drop_get h1, drop_get h2, he, held_same]
          simpa using this
      · by_cases hg : T a b (i + 1) j ≥ T a b i (j + 1)
        · refine Ev.step (f := fun k => r05_Match.l3 k a b ((pre ++ [-1]) ++ List.replicate (a.length - (i + 1)) (-1)) t ((i + 1 : Nat) : Int) (j : Int)) (fun k => ?_) ?_
          · simp only [r05_Match.j6]
            rw [if_pos trivial, if_pos (by omega), if_pos (by omega), if_pos (by omega), if_pos (by omega), if_neg (show ¬ rd a (i : Int) = rd b (j : Int) from he), w64s i (by omega), w64s j (by omega), q1, q0, if_pos (by omega), if_pos (by omega), if_pos (by rw [r1.1]; omega), if_pos (by omega), if_pos (by omega), if_pos (by rw [r0.1]; omega), if_pos (by rw [rd_nat, rd_nat, r1.2 j (by omega) (by omega), r0.2 (j + 1) (by omega) (by omega)]; omega)]
            rw [hn, List.replicate_succ, List.append_assoc]
            rfl
          · have := ih ((a.length - (i + 1)) + (b.length - j)) (by omega) (i + 1) j (pre ++ [-1]) rfl (by omega) (by omega) (by rw [List.length_append, hp]; rfl)
            rw [drop_get h1, drop_get h2, held_skip he _ _ _ (by rw [← drop_get h1, ← drop_get h2]; exact hg), ← drop_get h2]
            simpa using this
        · refine Ev.step (f := fun k => r05_Match.l3 k a b (pre ++ List.replicate (a.length - i) (-1)) t (i : Int) ((j + 1 : Nat) : Int)) (fun k => ?_) ?_
          · simp only [r05_Match.j6]
            rw [if_pos trivial, if_pos (by omega), if_pos (by omega), if_pos (by omega), if_pos (by omega), if_neg (show ¬ rd a (i : Int) = rd b (j : Int) from he), w64s i (by omega), w64s j (by omega), q1, q0, if_pos (by omega), if_pos (by omega), if_pos (by rw [r1.1]; omega), if_pos (by omega), if_pos (by omega), if_pos (by rw [r0.1]; omega), if_neg (by rw [rd_nat, rd_nat, r1.2 j (by omega) (by omega), r0.2 (j + 1) (by omega) (by omega)]; omega)]
          · have := ih ((a.length - i) + (b.length - (j + 1))) (by omega) i (j + 1) pre rfl (by omega) (by omega) hp
            rw [drop_get h1, drop_get h2, held_turn he _ _ _ (by rw [← drop_get h1, ← drop_get h2]; exact hg), ← drop_get h1]
            exact this
    · refine Ev.step (f := fun k => r05_Match.j6 k a b (pre ++ List.replicate (a.length - i) (-1)) t (i : Int) (j : Int) false) (fun k => ?_) (Ev.step (f := fun _ => some (pre ++ List.replicate (a.length - i) (-1))) (fun k => ?_) ?_)
      · simp only [r05_Match.l3]
        rw [if_pos (by omega), decide_eq_false (by omega)]
      · simp only [r05_Match.j6]
        rw [if_neg (by decide)]
      · rw [List.drop_eq_nil_of_le (by omega : b.length ≤ j), held_nil_r, List.length_drop]
        exact Ev.now _
  · refine Ev.step (f := fun k => r05_Match.j6 k a b (pre ++ List.replicate (a.length - i) (-1)) t (i : Int) (j : Int) false) (fun k => ?_) (Ev.step (f := fun _ => some (pre ++ List.replicate (a.length - i) (-1))) (fun k => ?_) ?_)
    · simp only [r05_Match.l3]
      rw [if_neg (by omega)]
    · simp only [r05_Match.j6]
      rw [if_neg (by decide)]
    · rw [List.drop_eq_nil_of_le (by omega : a.length ≤ i), show a.length - i = 0 by omega, held]
      exact Ev.now _
theorem ref_fill (a b : List Int) (ha : a.length ≤ 3000) (r : List Int) (big : Bool) (hbig : big = (decide (2000 < a.length) || decide (2000 < b.length))) (h : Ev (fun k => r05_Match.j1 k a b (List.replicate a.length (-1)) big) r) : ∀ (d i : Nat), a.length - i = d → i ≤ a.length → Ev (fun k => r05_Match.l0 k a b (List.replicate i (-1)) (i : Int)) r := by
  intro d
  induction d with
  | zero =>
    intro i hd hi
    obtain rfl : i = a.length := by omega
    refine Ev.step (f := fun k => r05_Match.j1 k a b (List.replicate a.length (-1)) big) (fun k => ?_) h
    simp only [r05_Match.l0]
    rw [if_neg (by omega)]
    by_cases h1 : (a.length : Int) > 2000
    · rw [if_pos h1, hbig, decide_eq_true (show 2000 < a.length by omega), Bool.true_or]
    · rw [if_neg h1, hbig, decide_eq_false (show ¬ 2000 < a.length by omega), Bool.false_or, show decide ((b.length : Int) > 2000) = decide (2000 < b.length) from decide_eq_decide.2 (by omega)]
  | succ d ih =>
    intro i hd hi
    refine Ev.step (f := fun k => r05_Match.l0 k a b (List.replicate (i + 1) (-1)) ((i + 1 : Nat) : Int)) (fun k => ?_) (ih (i + 1) (by omega) (by omega))
    simp only [r05_Match.l0]
    rw [if_pos (by omega), if_pos (by rw [List.length_replicate]; omega), w64s i (by omega), ← List.replicate_succ']
theorem ref_runs (a b : List Int) (ha : a.length ≤ 2000) (hb : b.length ≤ 2000) : Ev (fun k => r05_Match.f k a b) (held a b 0) := by
  obtain ⟨t, ht, he⟩ := table_runs a b (by omega) (by omega)
  have := ref_fill a b (by omega) (held a b 0) false (by rw [decide_eq_false (by omega), decide_eq_false (by omega)]; rfl) (Ev.step (f := fun k => (r05_table.f k a b).bind fun t261 => r05_Match.l3 k a b (List.replicate a.length (-1)) t261 0 0) (fun k => by simp only [r05_Match.j1]; rw [if_neg (by decide)]) (Ev.bind he (by
    have := ref_loop a b (by omega) (by omega) t ht _ 0 0 [] rfl (by omega) (by omega) rfl
    simpa using this))) _ 0 rfl (Nat.zero_le _)
  exact this
/-! ### rows too long to be held: what they begin and end with -/
def pref (a b : List Int) : Nat → Nat → List Int → Nat × List Int
  | 0, p, out => (p, out)
  | d + 1, p, out => if p < a.length ∧ p < b.length ∧ a.getD p 0 = b.getD p 0 then pref a b d (p + 1) (out.set p (p : Int)) else (p, out)
def suf (a b : List Int) (p : Nat) : Nat → Nat → Nat
  | 0, q => q
  | d + 1, q => if q < a.length - p ∧ q < b.length - p ∧ a.getD (a.length - 1 - q) 0 = b.getD (b.length - 1 - q) 0 then suf a b p d (q + 1) else q
def sets (n m : Nat) : Nat → Nat → List Int → List Int
  | 0, _, out => out
  | c + 1, i, out => sets n m c (i + 1) (out.set (n - 1 - i) ((m - 1 - i : Nat) : Int))
theorem suf_ge (a b : List Int) (p : Nat) : ∀ d q, q ≤ suf a b p d q := by
  intro d
  induction d with
  | zero => intro q; exact Nat.le_refl _
  | succ d ih => intro q; rw [suf]; split
                 · exact Nat.le_trans (Nat.le_succ _) (ih _)
                 · exact Nat.le_refl _
theorem suf_le (a b : List Int) (p : Nat) : ∀ d q, q ≤ a.length - p → q ≤ b.length - p → suf a b p d q ≤ a.length - p ∧ suf a b p d q ≤ b.length - p := by
  intro d
  induction d with
  | zero => intro q h1 h2; exact ⟨h1, h2⟩
  | succ d ih => intro q h1 h2; rw [suf]; split
                 · rename_i h; exact ih _ h.1 h.2.1
                 · exact ⟨h1, h2⟩
theorem sets_length (n m : Nat) : ∀ c i out, (sets n m c i out).length = out.length := by
  intro c
  induction c with
  | zero => intro i out; rfl
  | succ c ih => intro i out; rw [sets, ih, List.length_set]
theorem pref_length (a b : List Int) : ∀ d p out, (pref a b d p out).2.length = out.length := by
  intro d
  induction d with
  | zero => intro p out; rfl
  | succ d ih => intro p out; rw [pref]; split
                 · rw [ih, List.length_set]
                 · rfl
theorem pref_le (a b : List Int) : ∀ d p out, p ≤ a.length → p ≤ b.length → (pref a b d p out).1 ≤ a.length ∧ (pref a b d p out).1 ≤ b.length := by
  intro d
  induction d with
  | zero => intro p out h1 h2; exact ⟨h1, h2⟩
  | succ d ih => intro p out h1 h2; rw [pref]; split
                 · rename_i h; exact ih _ _ h.1 h.2.1
                 · exact ⟨h1, h2⟩
theorem from_end (x : List Int) (hx : x.length ≤ 3000) (q : Nat) (hq : q < x.length) : wrap64 (wrap64 ((x.length : Int) - 1) - (q : Int)) = ((x.length - 1 - q : Nat) : Int) := by
  rw [w64 (x := (x.length : Int) - 1) (by omega) (by omega), w64 (by omega) (by omega)]; omega
theorem ends_sets (a b : List Int) (ha : a.length ≤ 3000) (hb : b.length ≤ 3000) (p q : Nat) (h1 : q ≤ a.length) (h2 : q ≤ b.length) : ∀ (d i : Nat) (out : List Int), q - i = d → i ≤ q → out.length = a.length →
    Ev (fun k => lcs_ends.l2 k a b out (p : Int) (q : Int) (q : Int) (i : Int)) ((p : Int), (q : Int), sets a.length b.length d i out) := by
  intro d
  induction d with
  | zero =>
    intro i out hd hi ho
    refine Ev.step (f := fun _ => some ((p : Int), (q : Int), out)) (fun k => ?_) (Ev.now _)
    simp only [lcs_ends.l2]
    rw [if_neg (by omega)]
  | succ d ih =>
    intro i out hd hi ho
    refine Ev.step (f := fun k => lcs_ends.l2 k a b (out.set (a.length - 1 - i) ((b.length - 1 - i : Nat) : Int)) (p : Int) (q : Int) (q : Int) ((i + 1 : Nat) : Int)) (fun k => ?_) (ih (i + 1) _ (by omega) (by omega) (by rw [List.length_set]; exact ho))
    simp only [lcs_ends.l2]
    rw [from_end a ha i (by omega), from_end b hb i (by omega), if_pos (by omega), if_pos (by omega), if_pos (by omega), w64s i (by omega)]
    rfl
theorem mn_nat (x y : Nat) : mn (x : Int) (y : Int) = ((min x y : Nat) : Int) := by unfold mn; split <;> omega
theorem ends_suf (a b : List Int) (ha : a.length ≤ 3000) (hb : b.length ≤ 3000) (p : Nat) (h1 : p ≤ a.length) (h2 : p ≤ b.length) (out : List Int) (ho : out.length = a.length) : ∀ (d q : Nat), a.length - p - q < d → q ≤ a.length - p → q ≤ b.length - p →
    Ev (fun k => lcs_ends.l1 k a b out (p : Int) (q : Int)) ((p : Int), (suf a b p d q : Int), sets a.length b.length (suf a b p d q) 0 out) := by
  intro d
  induction d with
  | zero => intro q hd; omega
  | succ d ih =>
    intro q hd h3 h4
    have hm : wrap64 (mn (a.length : Int) (b.length : Int) - (p : Int)) = ((min a.length b.length - p : Nat) : Int) := by rw [mn_nat, w64 (by omega) (by omega)]; omega
    have fin : Ev (fun k => lcs_ends.j3 k a b out (p : Int) (q : Int)) ((p : Int), (q : Int), sets a.length b.length q 0 out) := by
      clear hm
      refine Ev.step (f := fun k => lcs_ends.l2 k a b out (p : Int) (q : Int) (q : Int) 0) (fun k => ?_) (ends_sets a b ha hb p q (by omega) (by omega) q 0 out (by omega) (by omega) ho)
      simp only [lcs_ends.j3]
    by_cases hc : q < a.length - p ∧ q < b.length - p
    · have g1 := from_end a ha q (by clear hm; omega)
      have g2 := from_end b hb q (by clear hm; omega)
      by_cases he : a.getD (a.length - 1 - q) 0 = b.getD (b.length - 1 - q) 0
      · rw [suf, if_pos ⟨hc.1, hc.2, he⟩]
        refine Ev.step (f := fun k => lcs_ends.l1 k a b out (p : Int) ((q + 1 : Nat) : Int)) (fun k => ?_) (ih (q + 1) (by clear hm g1 g2; omega) (by clear hm g1 g2; omega) (by clear hm g1 g2; omega))
        simp only [lcs_ends.l1]
        rw [hm, g1, g2]
        clear hm g1 g2
        rw [if_pos (by omega), if_pos (by omega), if_pos (by omega), if_pos (by omega), if_pos (by omega), if_pos (show rd a ((a.length - 1 - q : Nat) : Int) = rd b ((b.length - 1 - q : Nat) : Int) from he), w64s q (by omega)]
      · rw [suf, if_neg (fun h => he h.2.2)]
        refine Ev.step (f := fun k => lcs_ends.j3 k a b out (p : Int) (q : Int)) (fun k => ?_) fin
        simp only [lcs_ends.l1]
        rw [hm, g1, g2]
        clear hm g1 g2
        rw [if_pos (by omega), if_pos (by omega), if_pos (by omega), if_pos (by omega), if_pos (by omega), if_neg (show ¬ rd a ((a.length - 1 - q : Nat) : Int) = rd b ((b.length - 1 - q : Nat) : Int) from he)]
    · rw [suf, if_neg (fun h => hc ⟨h.1, h.2.1⟩)]
      refine Ev.step (f := fun k => lcs_ends.j3 k a b out (p : Int) (q : Int)) (fun k => ?_) fin
      simp only [lcs_ends.l1]
      rw [hm]
      clear hm
      rw [if_neg (by omega)]
theorem ends_pref (a b : List Int) (ha : a.length ≤ 3000) (hb : b.length ≤ 3000) : ∀ (d p : Nat) (out : List Int), a.length - p < d → p ≤ a.length → p ≤ b.length → out.length = a.length →
    Ev (fun k => lcs_ends.l0 k a b out (p : Int)) (((pref a b d p out).1 : Int), (suf a b (pref a b d p out).1 3001 0 : Int), sets a.length b.length (suf a b (pref a b d p out).1 3001 0) 0 (pref a b d p out).2) := by
  intro d
  induction d with
  | zero => intro p out hd; omega
  | succ d ih =>
    intro p out hd h1 h2 ho
    have fin : Ev (fun k => lcs_ends.j1 k a b out (p : Int)) ((p : Int), (suf a b p 3001 0 : Int), sets a.length b.length (suf a b p 3001 0) 0 out) := by
      refine Ev.step (f := fun k => lcs_ends.l1 k a b out (p : Int) 0) (fun k => ?_) (ends_suf a b ha hb p h1 h2 out ho 3001 0 (by omega) (by omega) (by omega))
      simp only [lcs_ends.j1]
    by_cases hc : p < a.length ∧ p < b.length
    · by_cases he : a.getD p 0 = b.getD p 0
      · rw [pref, if_pos ⟨hc.1, hc.2, he⟩]
        refine Ev.step (f := fun k => lcs_ends.l0 k a b (out.set p (p : Int)) ((p + 1 : Nat) : Int)) (fun k => ?_) (ih (p + 1) _ (by omega) (by omega) (by omega) (by rw [List.length_set]; exact ho))
        simp only [lcs_ends.l0]
        rw [mn_nat, if_pos (by omega), if_pos (by omega), if_pos (by omega), if_pos (by omega), if_pos (show rd a (p : Int) = rd b (p : Int) from he), if_pos (by omega), w64s p (by omega)]
        rfl
      · rw [pref, if_neg (fun h => he h.2.2)]
        refine Ev.step (f := fun k => lcs_ends.j1 k a b out (p : Int)) (fun k => ?_) fin
        simp only [lcs_ends.l0]
        rw [mn_nat, if_pos (by omega), if_pos (by omega), if_pos (by omega), if_pos (by omega), if_neg (show ¬ rd a (p : Int) = rd b (p : Int) from he)]
    · rw [pref, if_neg (fun h => hc ⟨h.1, h.2.1⟩)]
      refine Ev.step (f := fun k => lcs_ends.j1 k a b out (p : Int)) (fun k => ?_) fin
      simp only [lcs_ends.l0]
      rw [mn_nat, if_neg (by omega)]
/-- what comes of rows that are too long -/
def long (a b : List Int) : List Int :=
  let x := pref a b 3001 0 (List.replicate a.length (-1))
  sets a.length b.length (suf a b x.1 3001 0) 0 x.2
theorem long_length (a b : List Int) : (long a b).length = a.length := by
  unfold long; simp only []; rw [sets_length, pref_length, List.length_replicate]
theorem match_long (a b : List Int) (ha : a.length ≤ 3000) (hb : b.length ≤ 3000) (h : 2000 < a.length ∨ 2000 < b.length) : Ev (fun k => lcs_Match.f k a b) (long a b) := by
  refine Ev.bind (f := fun k t140 => if (a.length : Int) > 2000 then lcs_Match.j0 k a b t140 true else lcs_Match.j0 k a b t140 (decide ((b.length : Int) > 2000))) (none_runs a.length (by omega)) ?_
  refine Ev.congr (f := fun k => lcs_Match.j0 k a b (List.replicate a.length (-1)) true) (fun k => ?_) (Ev.step (f := fun k => (lcs_ends.f k a b (List.replicate a.length (-1))).bind fun bt => some bt.2.2) (fun k => ?_) (Ev.bind (ends_pref a b ha hb 3001 0 (List.replicate a.length (-1)) (by omega) (by omega) (by omega) (by simp)) (Ev.now _)))
  · show (if (a.length : Int) > 2000 then _ else _) = _
    by_cases h1 : (a.length : Int) > 2000
    · rw [if_pos h1]
    · rw [if_neg h1, decide_eq_true (by omega)]
  · simp only [lcs_Match.j0]
    rw [if_pos trivial]
theorem ref_suf (a b : List Int) (ha : a.length ≤ 3000) (hb : b.length ≤ 3000) (p : Nat) (h1 : p ≤ a.length) (h2 : p ≤ b.length) : ∀ (d q : Nat) (out : List Int), a.length - p - q < d → q ≤ a.length - p → q ≤ b.length - p → out.length = a.length →
    Ev (fun k => r05_Match.l2 k a b out (p : Int) (q : Int)) (sets a.length b.length (suf a b p d q - q) q out) := by
  intro d
  induction d with
  | zero => intro q out hd; omega
  | succ d ih =>
    intro q out hd h3 h4 ho
    have m1 : wrap64 ((a.length : Int) - (p : Int)) = ((a.length - p : Nat) : Int) := by rw [w64 (by omega) (by omega)]; omega
    have m2 : wrap64 ((b.length : Int) - (p : Int)) = ((b.length - p : Nat) : Int) := by rw [w64 (by omega) (by omega)]; omega
    by_cases hc : q < a.length - p ∧ q < b.length - p
    · have g1 := from_end a ha q (by clear m1 m2; omega)
      have g2 := from_end b hb q (by clear m1 m2; omega)
      by_cases he : a.getD (a.length - 1 - q) 0 = b.getD (b.length - 1 - q) 0
      · rw [suf, if_pos ⟨hc.1, hc.2, he⟩]
        have hge := suf_ge a b p d (q + 1)
        have := ih (q + 1) (out.set (a.length - 1 - q) ((b.length - 1 - q : Nat) : Int)) (by clear m1 m2 g1 g2; omega) (by clear m1 m2 g1 g2; omega) (by clear m1 m2 g1 g2; omega) (by rw [List.length_set]; exact ho)
        rw [show suf a b p d (q + 1) - q = (suf a b p d (q + 1) - (q + 1)) + 1 by clear m1 m2 g1 g2; omega, sets]
        refine Ev.step (f := fun k => r05_Match.l2 k a b (out.set (a.length - 1 - q) ((b.length - 1 - q : Nat) : Int)) (p : Int) ((q + 1 : Nat) : Int)) (fun k => ?_) this
        simp only [r05_Match.l2]
        rw [m1, m2, g1, g2]
        clear m1 m2 g1 g2
        rw [if_pos (by omega), if_pos (by omega), if_pos (by omega), if_pos (by omega), if_pos (by omega), if_pos (by omega), if_pos (show rd a ((a.length - 1 - q : Nat) : Int) = rd b ((b.length - 1 - q : Nat) : Int) from he), if_pos (by omega), w64s q (by omega)]
        rfl
      · rw [suf, if_neg (fun h => he h.2.2), Nat.sub_self]
        refine Ev.step (f := fun _ => some out) (fun k => ?_) (Ev.now _)
        simp only [r05_Match.l2]
        rw [m1, m2, g1, g2]
        clear m1 m2 g1 g2
        rw [if_pos (by omega), if_pos (by omega), if_pos (by omega), if_pos (by omega), if_pos (by omega), if_pos (by omega), if_neg (show ¬ rd a ((a.length - 1 - q : Nat) : Int) = rd b ((b.length - 1 - q : Nat) : Int) from he)]
    · rw [suf, if_neg (fun h => hc ⟨h.1, h.2.1⟩), Nat.sub_self]
      refine Ev.step (f := fun _ => some out) (fun k => ?_) (Ev.now _)
      simp only [r05_Match.l2]
      rw [m1, m2]
      clear m1 m2
      by_cases hx : (q : Int) < ((a.length - p : Nat) : Int)
      · rw [if_pos hx, if_neg (by omega)]
      · rw [if_neg hx]
theorem ref_pref (a b : List Int) (ha : a.length ≤ 3000) (hb : b.length ≤ 3000) : ∀ (d p : Nat) (out : List Int), a.length - p < d → p ≤ a.length → p ≤ b.length → out.length = a.length →
    Ev (fun k => r05_Match.l1 k a b out (p : Int)) (sets a.length b.length (suf a b (pref a b d p out).1 3001 0) 0 (pref a b d p out).2) := by
  intro d
  induction d with
  | zero => intro p out hd; omega
  | succ d ih =>
    intro p out hd h1 h2 ho
    have fin : Ev (fun k => r05_Match.j3 k a b out (p : Int)) (sets a.length b.length (suf a b p 3001 0) 0 out) := by
      refine Ev.step (f := fun k => r05_Match.l2 k a b out (p : Int) 0) (fun k => ?_) (ref_suf a b ha hb p h1 h2 3001 0 out (by omega) (by omega) (by omega) ho)
      simp only [r05_Match.j3]
    by_cases hx : (p : Int) < (a.length : Int)
    · by_cases hy : (p : Int) < (b.length : Int)
      · by_cases he : a.getD p 0 = b.getD p 0
        · rw [pref, if_pos ⟨by omega, by omega, he⟩]
          refine Ev.step (f := fun k => r05_Match.l1 k a b (out.set p (p : Int)) ((p + 1 : Nat) : Int)) (fun k => ?_) (ih (p + 1) _ (by omega) (by omega) (by omega) (by rw [List.length_set]; exact ho))
          simp only [r05_Match.l1]
          rw [if_pos hx, if_pos hy, if_pos (by omega), if_pos (show rd a (p : Int) = rd b (p : Int) from he), if_pos (by omega), w64s p (by omega)]
          rfl
        · rw [pref, if_neg (fun h => he h.2.2)]
          refine Ev.step (f := fun k => r05_Match.j3 k a b out (p : Int)) (fun k => ?_) fin
          simp only [r05_Match.l1]
          rw [if_pos hx, if_pos hy, if_pos (by omega), if_neg (show ¬ rd a (p : Int) = rd b (p : Int) from he)]
      · rw [pref, if_neg (fun h => hy (by have := h.2.1; omega))]
        refine Ev.step (f := fun k => r05_Match.j3 k a b out (p : Int)) (fun k => ?_) fin
        simp only [r05_Match.l1]
        rw [if_pos hx, if_neg hy]
    · rw [pref, if_neg (fun h => hx (by have := h.1; omega))]
      refine Ev.step (f := fun k => r05_Match.j3 k a b out (p : Int)) (fun k => ?_) fin
      simp only [r05_Match.l1]
      rw [if_neg hx]
theorem ref_long (a b : List Int) (ha : a.length ≤ 3000) (hb : b.length ≤ 3000) (h : 2000 < a.length ∨ 2000 < b.length) : Ev (fun k => r05_Match.f k a b) (long a b) :=
  ref_fill a b ha (long a b) true (by rcases h with h | h <;> simp [h]) (Ev.step (f := fun k => r05_Match.l1 k a b (List.replicate a.length (-1)) 0) (fun k => by simp only [r05_Match.j1]; rw [if_pos trivial]) (ref_pref a b ha hb 3001 0 (List.replicate a.length (-1)) (by omega) (by omega) (by omega) (by simp))) _ 0 rfl (Nat.zero_le _)
/-- what both come to -/
def told (a b : List Int) : List Int := if a.length ≤ 2000 ∧ b.length ≤ 2000 then held a b 0 else long a b
theorem told_length (a b : List Int) : (told a b).length = a.length := by unfold told; split; exact held_length _ _ _; exact long_length _ _
theorem match_told (a b : List Int) (ha : a.length ≤ 3000) (hb : b.length ≤ 3000) : Ev (fun k => lcs_Match.f k a b) (told a b) := by
  unfold told; split
  · rename_i h; exact match_runs a b h.1 h.2
  · exact match_long a b ha hb (by omega)
theorem ref_told (a b : List Int) (ha : a.length ≤ 3000) (hb : b.length ≤ 3000) : Ev (fun k => r05_Match.f k a b) (told a b) := by
  unfold told; split
  · rename_i h; exact ref_runs a b h.1 h.2
  · exact ref_long a b ha hb (by omega)
theorem same_loop (l : List Int) (hl : l.length ≤ 1000000) : ∀ (d j : Nat), l.length - j = d → j ≤ l.length → Ev (fun k => r05_Same.l0 k l l (j : Int)) true := by
  intro d
  induction d with
  | zero =>
    intro j hd hj
    refine Ev.step (f := fun _ => some true) (fun k => ?_) (Ev.now _)
    simp only [r05_Same.l0]
    rw [if_neg (by omega)]
  | succ d ih =>
    intro j hd hj
    refine Ev.step (f := fun k => r05_Same.l0 k l l ((j + 1 : Nat) : Int)) (fun k => ?_) (ih (j + 1) (by omega) (by omega))
    simp only [r05_Same.l0]
    rw [if_pos (by omega), if_pos (by omega), if_pos (by omega), if_pos trivial, w64s j (by omega)]
theorem same_runs (l : List Int) (hl : l.length ≤ 1000000) : Ev (fun k => r05_Same.f k l l) true :=
  Ev.congr (f := fun k => r05_Same.l0 k l l ((0 : Nat) : Int)) (fun k => by simp only [r05_Same.f]; rw [if_pos trivial]; rfl) (same_loop l hl _ 0 rfl (Nat.zero_le _))
theorem awake_runs : Ev (fun k => l05_awake.f k) true := Ev.of (l05_awake.mono) (k := 40) (by decide +kernel)
/-! ### texts as numbers: what both come to -/
def grow (l : List ByteArray) (s : ByteArray) : List ByteArray := if lcs_Numbers.has l s = true then l else l ++ [s]
def seenBy : List ByteArray → List ByteArray → List ByteArray
  | [], l => l
  | s :: r, l => seenBy r (grow l s)
def nums : List ByteArray → List ByteArray → List Int
  | [], _ => []
  | s :: r, l => (lcs_Numbers.ix l s : Int) :: nums r (grow l s)
def numsAll : List (List ByteArray) → List ByteArray → List (List Int)
  | [], _ => []
  | r :: rs, l => nums r l :: numsAll rs (seenBy r l)
theorem grow_length (l : List ByteArray) (s : ByteArray) : (grow l s).length ≤ l.length + 1 := by unfold grow; split <;> simp
theorem seenBy_length : ∀ (r l : List ByteArray), (seenBy r l).length ≤ l.length + r.length
  | [], l => by simp [seenBy]
  | s :: r, l => by
    have h1 := seenBy_length r (grow l s)
    have h2 := grow_length l s
    rw [seenBy, List.length_cons]; omega
theorem nums_length : ∀ (r l : List ByteArray), (nums r l).length = r.length
  | [], l => rfl
  | s :: r, l => by rw [nums, List.length_cons, List.length_cons, nums_length r]
theorem numsAll_length : ∀ (rs : List (List ByteArray)) (l : List ByteArray), (numsAll rs l).length = rs.length
  | [], l => rfl
  | r :: rs, l => by rw [numsAll, List.length_cons, List.length_cons, numsAll_length rs]
theorem ix_le (l : List ByteArray) (s : ByteArray) : lcs_Numbers.ix l s ≤ l.length := List.findIdx_le_length
theorem has_iff (l : List ByteArray) (s : ByteArray) : lcs_Numbers.has l s = true ↔ lcs_Numbers.ix l s < l.length := by
  unfold lcs_Numbers.has lcs_Numbers.ix
  rw [List.findIdx_lt_length, List.any_eq_true]
theorem ix_none {l : List ByteArray} {s : ByteArray} (h : ¬ lcs_Numbers.has l s = true) : lcs_Numbers.ix l s = l.length := by
  have h1 := ix_le l s
  rw [has_iff] at h; omega
theorem drop_getS {xs : List ByteArray} {i : Nat} (h : i < xs.length) : xs.drop i = xs.getD i ByteArray.empty :: xs.drop (i + 1) := by
  rw [List.drop_eq_getElem_cons h, List.getD_eq_getElem?_getD, List.getElem?_eq_getElem h]; rfl
theorem drop_getL {α : Type} {xs : List (List α)} {i : Nat} (h : i < xs.length) : xs.drop i = xs.getD i [] :: xs.drop (i + 1) := by
  rw [List.drop_eq_getElem_cons h, List.getD_eq_getElem?_getD, List.getElem?_eq_getElem h]; rfl
theorem getD_memS {α : Type} {xs : List α} {i : Nat} (h : i < xs.length) (d : α) : xs.getD i d ∈ xs := by
  rw [List.getD_eq_getElem?_getD, List.getElem?_eq_getElem h]; exact List.getElem_mem h
/-- rows that are short enough -/
def Few (rows : List (List ByteArray)) : Prop := rows.length ≤ 1000 ∧ ∀ r ∈ rows, r.length ≤ 1000 ∧ ∀ s ∈ r, s.size ≤ 140737488355328
theorem numbers_row {rows : List (List ByteArray)} (hf : Few rows) {i : Nat} (hi : i < rows.length) (out : List (List Int)) (hout : out.length = i) (res : List (List Int)) :
    ∀ (d j : Nat) (seen : List ByteArray) (l : List Int), (rows.getD i []).length - j = d → j ≤ (rows.getD i []).length → seen.length ≤ i * 1000 + j → l.length = j →
      Ev (fun k => lcs_Numbers.l0 k rows (seenBy ((rows.getD i []).drop j) seen) (out ++ [l ++ nums ((rows.getD i []).drop j) seen]) ((i + 1 : Nat) : Int)) res →
      Ev (fun k => lcs_Numbers.l1 k rows seen out (i : Int) l (j : Int)) res := by
  obtain ⟨hr, hs⟩ := hf.2 _ (getD_memS hi [])
  have hn := hf.1
  intro d
  induction d with
  | zero =>
    intro j seen l hd hj hseen hl h
    have e0 : (rows.getD i []).drop j = [] := List.drop_eq_nil_of_le (by omega)
    rw [e0, seenBy, nums, List.append_nil] at h
    refine Ev.step (fun k => ?_) h
    simp only [lcs_Numbers.l1]
    rw [if_neg (show ¬ (j : Int) < ((rd_L4 rows (i : Int)).length : Int) from (show ¬ (j : Int) < ((rows.getD i []).length : Int) by omega)), if_pos (by omega), w64s i (by omega)]
  | succ d ih =>
    intro j seen l hd hj hseen hl h
    have hj' : j < (rows.getD i []).length := by omega
    rw [drop_getS hj', seenBy, nums] at h
    have hz := hs _ (getD_memS hj' ByteArray.empty)
    refine Ev.step (f := fun k => lcs_Numbers.l1 k rows (grow seen ((rows.getD i []).getD j ByteArray.empty)) out (i : Int) (l ++ [(lcs_Numbers.ix seen ((rows.getD i []).getD j ByteArray.empty) : Int)]) ((j + 1 : Nat) : Int)) (fun k => ?_)
      (ih (j + 1) _ _ (by omega) (by omega) (Nat.le_trans (grow_length _ _) (by omega)) (by simp [hl]) (by rw [List.append_assoc]; exact h))
    simp only [lcs_Numbers.l1]
    rw [if_pos (show (j : Int) < ((rd_L4 rows (i : Int)).length : Int) from (show (j : Int) < ((rows.getD i []).length : Int) by omega)), if_pos (by omega), if_pos (show (rdOf ByteArray.empty (rd_L4 rows (i : Int)) (j : Int)).size ≤ 140737488355328 from hz), if_pos (by omega), if_pos (by omega), w64s j (by omega)]
    show (if lcs_Numbers.has seen ((rows.getD i []).getD j ByteArray.empty) = true then _ else _) = _
    by_cases hh : lcs_Numbers.has seen ((rows.getD i []).getD j ByteArray.empty) = true
    · rw [if_pos hh, grow, if_pos hh]; rfl
    · rw [if_neg hh, grow, if_neg hh, ix_none hh]; rfl
theorem numbers_rows {rows : List (List ByteArray)} (hf : Few rows) : ∀ (d i : Nat) (seen : List ByteArray) (out : List (List Int)), rows.length - i = d → i ≤ rows.length → seen.length ≤ i * 1000 → out.length = i →
    Ev (fun k => lcs_Numbers.l0 k rows seen out (i : Int)) (out ++ numsAll (rows.drop i) seen) := by
  have hn := hf.1
  intro d
  induction d with
  | zero =>
    intro i seen out hd hi hseen hout
    rw [List.drop_eq_nil_of_le (by omega), numsAll, List.append_nil]
    refine Ev.step (f := fun _ => some out) (fun k => ?_) (Ev.now _)
    simp only [lcs_Numbers.l0]
    rw [if_neg (by omega)]
  | succ d ih =>
    intro i seen out hd hi hseen hout
    have hi' : i < rows.length := by omega
    have hr := (hf.2 _ (getD_memS hi' [])).1
    rw [drop_getL hi', numsAll]
    refine Ev.step (f := fun k => lcs_Numbers.l1 k rows seen out (i : Int) [] ((0 : Nat) : Int)) (fun k => ?_) ?_
    · simp only [lcs_Numbers.l0]
      rw [if_pos (by omega), if_pos (by omega)]; rfl
    · refine numbers_row hf hi' out hout _ _ 0 seen [] rfl (Nat.zero_le _) (by rw [Nat.add_zero]; exact hseen) rfl ?_
      rw [List.drop_zero, List.nil_append, show out ++ nums (rows.getD i []) seen :: numsAll (rows.drop (i + 1)) (seenBy (rows.getD i []) seen) = (out ++ [nums (rows.getD i []) seen]) ++ numsAll (rows.drop (i + 1)) (seenBy (rows.getD i []) seen) by rw [List.append_assoc]; rfl]
      exact ih (i + 1) _ _ (by omega) (by omega) (Nat.le_trans (seenBy_length _ _) (by omega)) (by simp [hout])
theorem numbers_run {rows : List (List ByteArray)} (hf : Few rows) : Ev (fun k => lcs_Numbers.f k rows) (numsAll rows []) := by
  have := numbers_rows hf _ 0 [] [] rfl (Nat.zero_le _) (Nat.zero_le _) rfl
  unfold lcs_Numbers.f
  simpa using this
/-! the document's own -/
theorem ref_place {rows : List (List ByteArray)} (hf : Few rows) {i : Nat} (hi : i < rows.length) (out : List (List Int)) {j : Nat} (hj : j < (rows.getD i []).length) (seen : List ByteArray) (hseen : seen.length ≤ i * 1000 + j) (l : List Int) (hl : l.length = j) (res : List (List Int))
    (h : Ev (fun k => r05_Numbers.l1 k rows (grow seen ((rows.getD i []).getD j ByteArray.empty)) out (i : Int) (l ++ [(lcs_Numbers.ix seen ((rows.getD i []).getD j ByteArray.empty) : Int)]) ((j + 1 : Nat) : Int)) res) :
    ∀ (d n : Nat), lcs_Numbers.ix seen ((rows.getD i []).getD j ByteArray.empty) - n = d → n ≤ lcs_Numbers.ix seen ((rows.getD i []).getD j ByteArray.empty) →
      Ev (fun k => r05_Numbers.l2 k rows seen out (i : Int) l (j : Int) (n : Int)) res := by
  obtain ⟨hr, hs⟩ := hf.2 _ (getD_memS hi [])
  have hn := hf.1
  have hix := ix_le seen ((rows.getD i []).getD j ByteArray.empty)
  obtain ⟨s, es⟩ : ∃ s, s = (rows.getD i []).getD j ByteArray.empty := ⟨_, rfl⟩
  rw [← es] at h hix ⊢
  intro d
  induction d with
  | zero =>
    intro n hd hn'
    have en : n = lcs_Numbers.ix seen s := by omega
    by_cases hh : lcs_Numbers.has seen s = true
    · have hlt := (has_iff seen s).1 hh
      have heq : (seen.getD n ByteArray.empty).data.toList = s.data.toList := by
        have := List.findIdx_getElem (xs := seen) (p := fun t : ByteArray => t.data.toList == s.data.toList) (w := hlt)
        rw [List.getD_eq_getElem?_getD, List.getElem?_eq_getElem (by rw [en]; exact hlt)]
        subst en
        simpa [lcs_Numbers.ix] using this
      rw [grow, if_pos hh, ← en] at h
      refine Ev.step (fun k => ?_) h
      simp only [r05_Numbers.l2]
      rw [if_pos (by omega), if_pos (by omega), if_pos (by omega), if_pos (by omega), if_pos (by omega), if_pos (show (j : Int) < ((rd_L4 rows (i : Int)).length : Int) from (show (j : Int) < ((rows.getD i []).length : Int) by omega)),
        if_pos (show (rdOf ByteArray.empty seen (n : Int)).toList = (rdOf ByteArray.empty (rd_L4 rows (i : Int)) (j : Int)).toList from show (seen.getD n ByteArray.empty).toList = ((rows.getD i []).getD j ByteArray.empty).toList by rw [← es, ByteArray.toList_eq, ByteArray.toList_eq]; exact heq), if_neg (by omega), if_pos (by omega), w64s j (by omega)]
    · have e1 := ix_none hh
      rw [grow, if_neg hh, ← en] at h
      refine Ev.step (fun k => ?_) h
      simp only [r05_Numbers.l2]
      rw [if_neg (by omega), if_pos (by omega), if_pos (by omega), if_pos (by omega), if_pos (by omega), if_pos (show (j : Int) < ((rd_L4 rows (i : Int)).length : Int) from (show (j : Int) < ((rows.getD i []).length : Int) by omega)), if_pos (by omega), if_pos (by omega), w64s j (by omega), es]; rfl
  | succ d ih =>
    intro n hd hn'
    have hlt : n < seen.length := by omega
    have hne : ¬ (seen.getD n ByteArray.empty).data.toList = s.data.toList := by
      have := List.not_of_lt_findIdx (xs := seen) (p := fun t : ByteArray => t.data.toList == s.data.toList) (i := n) (show n < lcs_Numbers.ix seen s by omega)
      rw [List.getD_eq_getElem?_getD, List.getElem?_eq_getElem hlt]
      simpa using this
    refine Ev.step (f := fun k => r05_Numbers.l2 k rows seen out (i : Int) l (j : Int) ((n + 1 : Nat) : Int)) (fun k => ?_) (ih (n + 1) (by omega) (by omega))
    simp only [r05_Numbers.l2]
    rw [if_pos (by omega), if_pos (by omega), if_pos (by omega), if_pos (by omega), if_pos (by omega), if_pos (show (j : Int) < ((rd_L4 rows (i : Int)).length : Int) from (show (j : Int) < ((rows.getD i []).length : Int) by omega)),
      if_neg (show ¬ (rdOf ByteArray.empty seen (n : Int)).toList = (rdOf ByteArray.empty (rd_L4 rows (i : Int)) (j : Int)).toList from show ¬ (seen.getD n ByteArray.empty).toList = ((rows.getD i []).getD j ByteArray.empty).toList by rw [← es, ByteArray.toList_eq, ByteArray.toList_eq]; exact hne), w64s n (by omega)]
theorem ref_numbers_row {rows : List (List ByteArray)} (hf : Few rows) {i : Nat} (hi : i < rows.length) (out : List (List Int)) (hout : out.length = i) (res : List (List Int)) :
    ∀ (d j : Nat) (seen : List ByteArray) (l : List Int), (rows.getD i []).length - j = d → j ≤ (rows.getD i []).length → seen.length ≤ i * 1000 + j → l.length = j →
      Ev (fun k => r05_Numbers.l0 k rows (seenBy ((rows.getD i []).drop j) seen) (out ++ [l ++ nums ((rows.getD i []).drop j) seen]) ((i + 1 : Nat) : Int)) res →
      Ev (fun k => r05_Numbers.l1 k rows seen out (i : Int) l (j : Int)) res := by
  obtain ⟨hr, hs⟩ := hf.2 _ (getD_memS hi [])
  have hn := hf.1
  intro d
  induction d with
  | zero =>
    intro j seen l hd hj hseen hl h
    have e0 : (rows.getD i []).drop j = [] := List.drop_eq_nil_of_le (by omega)
    rw [e0, seenBy, nums, List.append_nil] at h
    refine Ev.step (fun k => ?_) h
    simp only [r05_Numbers.l1]
    rw [if_pos (by omega), if_pos (by omega), if_neg (show ¬ (j : Int) < ((rd_L4 rows (i : Int)).length : Int) from (show ¬ (j : Int) < ((rows.getD i []).length : Int) by omega)), if_pos (by omega), w64s i (by omega)]
  | succ d ih =>
    intro j seen l hd hj hseen hl h
    have hj' : j < (rows.getD i []).length := by omega
    rw [drop_getS hj', seenBy, nums] at h
    have h2 := ih (j + 1) (grow seen ((rows.getD i []).getD j ByteArray.empty)) (l ++ [(lcs_Numbers.ix seen ((rows.getD i []).getD j ByteArray.empty) : Int)]) (by omega) (by omega) (Nat.le_trans (grow_length _ _) (by omega)) (by simp [hl]) (by rw [List.append_assoc]; exact h)
    refine Ev.step (f := fun k => r05_Numbers.l2 k rows seen out (i : Int) l (j : Int) ((0 : Nat) : Int)) (fun k => ?_) (ref_place hf hi out hj' seen hseen l hl res h2 _ 0 rfl (Nat.zero_le _))
    simp only [r05_Numbers.l1]
    rw [if_pos (by omega), if_pos (by omega), if_pos (show (j : Int) < ((rd_L4 rows (i : Int)).length : Int) from (show (j : Int) < ((rows.getD i []).length : Int) by omega))]; rfl
theorem ref_numbers_rows {rows : List (List ByteArray)} (hf : Few rows) : ∀ (d i : Nat) (seen : List ByteArray) (out : List (List Int)), rows.length - i = d → i ≤ rows.length → seen.length ≤ i * 1000 → out.length = i →
    Ev (fun k => r05_Numbers.l0 k rows seen out (i : Int)) (out ++ numsAll (rows.drop i) seen) := by
  have hn := hf.1
  intro d
  induction d with
  | zero =>
    intro i seen out hd hi hseen hout
    rw [List.drop_eq_nil_of_le (by omega), numsAll, List.append_nil]
    refine Ev.step (f := fun _ => some out) (fun k => ?_) (Ev.now _)
    simp only [r05_Numbers.l0]
    rw [if_neg (by omega)]
  | succ d ih =>
    intro i seen out hd hi hseen hout
    have hi' : i < rows.length := by omega
    have hr := (hf.2 _ (getD_memS hi' [])).1
    rw [drop_getL hi', numsAll]
    refine Ev.step (f := fun k => r05_Numbers.l1 k rows seen out (i : Int) [] ((0 : Nat) : Int)) (fun k => ?_) ?_
    · simp only [r05_Numbers.l0]
      rw [if_pos (by omega)]; rfl
    · refine ref_numbers_row hf hi' out hout _ _ 0 seen [] rfl (Nat.zero_le _) (by rw [Nat.add_zero]; exact hseen) rfl ?_
      rw [List.drop_zero, List.nil_append, show out ++ nums (rows.getD i []) seen :: numsAll (rows.drop (i + 1)) (seenBy (rows.getD i []) seen) = (out ++ [nums (rows.getD i []) seen]) ++ numsAll (rows.drop (i + 1)) (seenBy (rows.getD i []) seen) by rw [List.append_assoc]; rfl]
      exact ih (i + 1) _ _ (by omega) (by omega) (Nat.le_trans (seenBy_length _ _) (by omega)) (by simp [hout])
theorem ref_numbers_run {rows : List (List ByteArray)} (hf : Few rows) : Ev (fun k => r05_Numbers.f k rows) (numsAll rows []) := by
  have := ref_numbers_rows hf _ 0 [] [] rfl (Nat.zero_le _) (Nat.zero_le _) rfl
  unfold r05_Numbers.f
  simpa using this
theorem LcsNumbers (a b c : List ByteArray) (h0 : a.length * 16 ≤ 140737488351232 ∧ a.length ≤ maxLen ∧ ∀ x ∈ a, x.size ≤ 140737488351232) (h1 : b.length * 16 ≤ 140737488351232 ∧ b.length ≤ maxLen ∧ ∀ x ∈ b, x.size ≤ 140737488351232)
    (h2 : c.length * 16 ≤ 140737488351232 ∧ c.length ≤ maxLen ∧ ∀ x ∈ c, x.size ≤ 140737488351232) : ∃ k, l05_LcsNumbers.f k a b c = some true := by
  refine Ev.rounds ?_
  refine Ev.bind awake_runs ?_
  have yes : Ev (fun k => l05_LcsNumbers.j0 k a b c true) true := Ev.step (f := fun _ => some true) (fun k => by simp only [l05_LcsNumbers.j0]; rw [if_pos trivial]) (Ev.now _)
  by_cases g1 : (a.length : Int) > 100
  · exact Ev.congr (fun k => by rw [if_pos rfl, if_pos g1]) yes
  by_cases g2 : (b.length : Int) > 100
  · exact Ev.congr (fun k => by rw [if_pos rfl, if_neg g1, if_pos g2]) yes
  by_cases g3 : (c.length : Int) > 100
  · exact Ev.congr (fun k => by rw [if_pos rfl, if_neg g1, if_neg g2, decide_eq_true g3]) yes
  refine Ev.congr (f := fun k => l05_LcsNumbers.j0 k a b c false) (fun k => by rw [if_pos rfl, if_neg g1, if_neg g2, decide_eq_false g3]) ?_
  have sm : ∀ {l : List ByteArray}, ¬ (l.length : Int) > 100 → (∀ x ∈ l, x.size ≤ 140737488351232) → l.length ≤ 1000 ∧ ∀ s ∈ l, s.size ≤ 140737488355328 := fun hl hs => ⟨by omega, fun s hm => Nat.le_trans (hs s hm) (by decide)⟩
  have few3 : Few [a, b, c] := ⟨by simp, fun r hr => by
    rcases List.mem_cons.1 hr with rfl | hr
    · exact sm g1 h0.2.2
    rcases List.mem_cons.1 hr with rfl | hr
    · exact sm g2 h1.2.2
    rcases List.mem_cons.1 hr with rfl | hr
    · exact sm g3 h2.2.2
    · cases hr⟩
  have few2 : Few [a, b] := ⟨by simp, fun r hr => by
    rcases List.mem_cons.1 hr with rfl | hr
    · exact sm g1 h0.2.2
    rcases List.mem_cons.1 hr with rfl | hr
    · exact sm g2 h1.2.2
    · cases hr⟩
  have few0 : Few [] := ⟨by simp, fun r hr => by cases hr⟩
  refine Ev.step (fun k => by simp only [l05_LcsNumbers.j0]; rw [if_neg (by decide)]) (Ev.bind (numbers_run few3) (Ev.bind (ref_numbers_run few3) ?_))
  have hlen : (numsAll [a, b, c] []).length = 3 := numsAll_length [a, b, c] []
  obtain ⟨m, em⟩ : ∃ m, m = numsAll [a, b, c] [] := ⟨_, rfl⟩
  have hrow : ∀ r ∈ m, r.length ≤ 1000000 := by
    subst em
    intro r hr
    simp only [numsAll, List.mem_cons, List.not_mem_nil, or_false] at hr
    rcases hr with rfl | rfl | rfl <;> rw [nums_length] <;> omega
  rw [← em] at hlen ⊢
  refine Ev.congr (f := fun k => l05_LcsNumbers.l0 k a b m m ((0 : Nat) : Int)) (fun k => by rw [if_pos (by simp [hlen])]; rfl) ?_
  have la : a.length ≤ 3000 := by omega
  have lb : b.length ≤ 3000 := by omega
  have last : Ev (fun k => l05_LcsNumbers.l0 k a b m m ((3 : Nat) : Int)) true := by
    refine Ev.step (fun k => by simp only [l05_LcsNumbers.l0]; rw [if_neg (by omega)]) ?_
    have e2 : numsAll [a, b] [] = [nums a [], nums b (seenBy a [])] := rfl
    have t1 : Ev (fun k => lcs_Texts.f k a b) (told (nums a []) (nums b (seenBy a []))) := by
      unfold lcs_Texts.f
      refine Ev.bind (numbers_run few2) ?_
      rw [e2]
      refine Ev.congr (f := fun k => (lcs_Match.f k (nums a []) (nums b (seenBy a []))).bind fun t => some t) (fun k => by rw [if_pos (by simp), if_pos (by simp)]; rfl) (Ev.bind (match_told _ _ (by rw [nums_length]; omega) (by rw [nums_length]; omega)) (Ev.now _))
    have t2 : Ev (fun k => r05_Texts.f k a b) (told (nums a []) (nums b (seenBy a []))) := by
      unfold r05_Texts.f
      refine Ev.bind (ref_numbers_run few2) ?_
      rw [e2]
      refine Ev.congr (f := fun k => (r05_Match.f k (nums a []) (nums b (seenBy a []))).bind fun t => some t) (fun k => by rw [if_pos (by simp), if_pos (by simp)]; rfl) (Ev.bind (ref_told _ _ (by rw [nums_length]; omega) (by rw [nums_length]; omega)) (Ev.now _))
    refine Ev.bind t1 (Ev.bind t2 (Ev.bind (same_runs _ (by rw [told_length, nums_length]; omega)) ?_))
    refine Ev.congr (fun k => if_pos rfl) (Ev.bind (numbers_run few0) ?_)
    exact Ev.congr (f := fun _ => some true) (fun k => by simp [numsAll]) (Ev.now _)
  have one : ∀ i : Nat, i < 3 → Ev (fun k => l05_LcsNumbers.l0 k a b m m ((i + 1 : Nat) : Int)) true → Ev (fun k => l05_LcsNumbers.l0 k a b m m (i : Int)) true := fun i hi h => by
    have hm : m.getD i [] ∈ m := getD_memS (by omega) []
    refine Ev.step (f := fun k => (r05_Same.f k (m.getD i []) (m.getD i [])).bind fun t => if t = true then l05_LcsNumbers.l0 k a b m m (wrap64 ((i : Int) + 1)) else none) (fun k => by simp only [l05_LcsNumbers.l0]; rw [if_pos (by omega), if_pos (by omega), if_pos (by omega), if_pos (by omega)]; rfl) (Ev.bind (same_runs (m.getD i []) (hrow _ hm)) ?_)
    exact Ev.congr (fun k => by rw [if_pos rfl, w64s i (by omega)]) h
  exact one 0 (by omega) (one 1 (by omega) (one 2 (by omega) last))
end Go.Proofs.Ytjbgdoapbehopaa.Pure
