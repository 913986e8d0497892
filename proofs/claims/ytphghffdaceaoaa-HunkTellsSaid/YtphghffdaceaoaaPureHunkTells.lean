/- The hunks that any match leaves, and those between any rows of texts, are the document's. -/
import Derived.Test.YtphghffdaceaoaaPHunkx14
import Derived.Test.YtphghffdaceaoaaOpen
namespace Go.Proofs.Ytphghffdaceaoaa.Pure
open Go.RowKit Go.Proofs.Ytphghffdaceaoaa Go.Proofs.Ytphghffdaceaoaa.PHunk Go.Proofs.YtphghffdaceaoaaW.PrintWords Go.Proofs.YtphghffdaceaoaaW.PrintLast Go.Proofs.YtphghffdaceaoaaW.PrintMore
set_option linter.unusedVariables false
set_option linter.unusedSimpArgs false
/-! ### the longest common rows: mathematics alone -/
def lcs : List Int → List Int → Nat
  | [], _ => 0
  | _ :: _, [] => 0
  | x :: xs, y :: ys => if x = y then lcs xs ys + 1 else max (lcs xs (y :: ys)) (lcs (x :: xs) ys)
termination_by xs ys => xs.length + ys.length
theorem lcs_nil_l (ys : List Int) : lcs [] ys = 0 := by rw [lcs]
theorem lcs_nil_r (xs : List Int) : lcs xs [] = 0 := by cases xs <;> rw [lcs]
theorem lcs_same (x : Int) (xs ys : List Int) : lcs (x :: xs) (x :: ys) = lcs xs ys + 1 := by rw [lcs, if_pos rfl]
theorem lcs_other {x y : Int} (h : x ≠ y) (xs ys : List Int) : lcs (x :: xs) (y :: ys) = max (lcs xs (y :: ys)) (lcs (x :: xs) ys) := by rw [lcs, if_neg h]
theorem lcs_le : ∀ xs ys : List Int, lcs xs ys ≤ xs.length ∧ lcs xs ys ≤ ys.length := by
  intro xs ys
  induction xs, ys using lcs.induct with
  | case1 ys => rw [lcs_nil_l]; exact ⟨Nat.zero_le _, Nat.zero_le _⟩
  | case2 x xs => rw [lcs_nil_r]; exact ⟨Nat.zero_le _, Nat.zero_le _⟩
  | case3 x xs ys ih => rw [lcs_same]; simp only [List.length_cons]; omega
  | case4 x xs y ys h ih1 ih2 => rw [lcs_other h]; simp only [List.length_cons] at *; omega
/-- what of a row is held to be one of the other's things, from place k of that on -/
def held : List Int → List Int → Nat → List Int
  | [], _, _ => []
  | x :: xs, [], _ => List.replicate (xs.length + 1) (-1)
  | x :: xs, y :: ys, k => if x = y then (k : Int) :: held xs ys (k + 1) else if lcs xs (y :: ys) ≥ lcs (x :: xs) ys then (-1) :: held xs (y :: ys) k else held (x :: xs) ys (k + 1)
termination_by xs ys _ => xs.length + ys.length
theorem held_nil_r (xs : List Int) (k : Nat) : held xs [] k = List.replicate xs.length (-1) := by cases xs <;> rw [held] <;> simp
theorem held_same (x : Int) (xs ys : List Int) (k : Nat) : held (x :: xs) (x :: ys) k = (k : Int) :: held xs ys (k + 1) := by rw [held, if_pos rfl]
theorem held_skip {x y : Int} (h : x ≠ y) (xs ys : List Int) (k : Nat) (hg : lcs xs (y :: ys) ≥ lcs (x :: xs) ys) : held (x :: xs) (y :: ys) k = (-1) :: held xs (y :: ys) k := by rw [held, if_neg h, if_pos hg]
theorem held_turn {x y : Int} (h : x ≠ y) (xs ys : List Int) (k : Nat) (hg : ¬ lcs xs (y :: ys) ≥ lcs (x :: xs) ys) : held (x :: xs) (y :: ys) k = held (x :: xs) ys (k + 1) := by rw [held, if_neg h, if_neg hg]
theorem held_length : ∀ (xs ys : List Int) (k : Nat), (held xs ys k).length = xs.length := by
  intro xs ys k
  induction xs, ys, k using held.induct with
  | case1 ys k => rw [held]
  | case2 x xs k => rw [held_nil_r]; simp
  | case3 k x xs ys ih => rw [held_same]; simp [ih]
  | case4 x xs y ys k h hg ih => rw [held_skip h _ _ _ hg]; simp [ih]
  | case5 x xs y ys k h hg ih => rw [held_turn h _ _ _ hg]; exact ih
/-- how many are held -/
def many : List Int → Nat
  | [] => 0
  | m :: l => (if m ≥ 0 then 1 else 0) + many l
theorem many_none (n : Nat) : many (List.replicate n (-1)) = 0 := by
  induction n with
  | zero => rfl
  | succ n ih => rw [List.replicate_succ, many, ih]; simp
theorem held_many : ∀ (xs ys : List Int) (k : Nat), many (held xs ys k) = lcs xs ys := by
  intro xs ys k
  induction xs, ys, k using held.induct with
  | case1 ys k => rw [held, lcs_nil_l]; rfl
  | case2 x xs k => rw [held_nil_r, lcs_nil_r]; exact many_none _
  | case3 k x xs ys ih => rw [held_same, many, ih, lcs_same, if_pos (by omega)]; omega
  | case4 x xs y ys k h hg ih => rw [held_skip h _ _ _ hg, many, ih, lcs_other h, if_neg (by omega)]; omega
  | case5 x xs y ys k h hg ih => rw [held_turn h _ _ _ hg, ih, lcs_other h]; omega
theorem many_le (l : List Int) : many l ≤ l.length := by
  induction l with
  | nil => exact Nat.le_refl _
  | cons m l ih => rw [many, List.length_cons]; split <;> omega
/-! ### what the printed functions come to -/
theorem w64 {x : Int} (h0 : -9223372036854775808 ≤ x) (h1 : x ≤ 9223372036854775807) : wrap64 x = x := by unfold wrap64; omega
theorem w32 {x : Int} (h0 : -2147483648 ≤ x) (h1 : x ≤ 2147483647) : wrap32 x = x := by unfold wrap32; omega
theorem rd_nat (xs : List Int) (i : Nat) : rd xs (i : Int) = xs.getD i 0 := rfl
theorem getD_set_same {α : Type} {xs : List α} {i : Nat} (h : i < xs.length) (v d : α) : (xs.set i v).getD i d = v := by
  rw [List.getD_eq_getElem?_getD, List.getElem?_set_self h]; rfl
theorem getD_set_other {α : Type} {xs : List α} {i j : Nat} (h : i ≠ j) (v d : α) : (xs.set i v).getD j d = xs.getD j d := by
  rw [List.getD_eq_getElem?_getD, List.getD_eq_getElem?_getD, List.getElem?_set_ne h]
theorem drop_get {xs : List Int} {i : Nat} (h : i < xs.length) : xs.drop i = xs.getD i 0 :: xs.drop (i + 1) := by
  rw [List.drop_eq_getElem_cons h, List.getD_eq_getElem?_getD, List.getElem?_eq_getElem h]; rfl
/-- the table's entry -/
def T (a b : List Int) (i k : Nat) : Nat := lcs (a.drop i) (b.drop k)
theorem T_le (a b : List Int) (i k : Nat) : T a b i k ≤ a.length := Nat.le_trans (lcs_le _ _).1 (by simp)
theorem T_end_l (a b : List Int) (k : Nat) {i : Nat} (h : a.length ≤ i) : T a b i k = 0 := by unfold T; rw [List.drop_eq_nil_of_le h, lcs_nil_l]
theorem T_end_r (a b : List Int) (i : Nat) {k : Nat} (h : b.length ≤ k) : T a b i k = 0 := by unfold T; rw [List.drop_eq_nil_of_le h, lcs_nil_r]
theorem T_same {a b : List Int} {i k : Nat} (hi : i < a.length) (hk : k < b.length) (h : a.getD i 0 = b.getD k 0) : T a b i k = T a b (i + 1) (k + 1) + 1 := by
  unfold T; rw [drop_get hi, drop_get hk, h, lcs_same]
theorem T_other {a b : List Int} {i k : Nat} (hi : i < a.length) (hk : k < b.length) (h : ¬ a.getD i 0 = b.getD k 0) : T a b i k = max (T a b (i + 1) k) (T a b i (k + 1)) := by
  unfold T; rw [drop_get hi, drop_get hk, lcs_other h]
/-- row i of the table is told from place k on -/
def RowFrom (a b : List Int) (i k : Nat) (r : List Int) : Prop := r.length = b.length + 1 ∧ ∀ j, k ≤ j → j ≤ b.length → r.getD j 0 = (T a b i j : Int)
def TabFrom (a b : List Int) (i : Nat) (t : List (List Int)) : Prop := t.length = a.length + 1 ∧ ∀ j, i ≤ j → j ≤ a.length → RowFrom a b j 0 (t.getD j [])
theorem row_zero (a b : List Int) (n : Nat) (hn : n = b.length + 1) {i : Nat} (hi : a.length ≤ i) : RowFrom a b i 0 (List.replicate n 0) := by
  subst hn
  refine ⟨by simp, fun j _ hj => ?_⟩
  rw [T_end_l a b j hi, List.getD_eq_getElem?_getD, List.getElem?_replicate]; split <;> rfl
theorem row_last (a b : List Int) (n : Nat) (hn : n = b.length + 1) (i : Nat) : RowFrom a b i b.length (List.replicate n 0) := by
  subst hn
  refine ⟨by simp, fun j h1 h2 => ?_⟩
  rw [T_end_r a b i h1, List.getD_eq_getElem?_getD, List.getElem?_replicate]; split <;> rfl
theorem row_step {a b : List Int} {i k : Nat} {r : List Int} (h : RowFrom a b i (k + 1) r) (hk : k < b.length) : RowFrom a b i k (r.set k (T a b i k : Int)) := by
  refine ⟨by simpa using h.1, fun j h1 h2 => ?_⟩
  by_cases e : k = j
  · subst e; exact getD_set_same (by rw [h.1]; omega) _ _
  · rw [getD_set_other e]; exact h.2 j (by omega) h2
theorem tab_set {a b : List Int} {i : Nat} {t : List (List Int)} (h : TabFrom a b (i + 1) t) (hi : i ≤ a.length) {r : List Int} (hr : RowFrom a b i 0 r) : TabFrom a b i (t.set i r) := by
  refine ⟨by simpa using h.1, fun j h1 h2 => ?_⟩
  by_cases e : i = j
  · subst e; rw [getD_set_same (by rw [h.1]; omega)]; exact hr
  · rw [getD_set_other e]; exact h.2 j (by omega) h2
theorem tab_over {a b : List Int} {i : Nat} {t : List (List Int)} (h : TabFrom a b (i + 1) t) (r : List Int) : TabFrom a b (i + 1) (t.set i r) := by
  refine ⟨by simpa using h.1, fun j h1 h2 => ?_⟩
  rw [getD_set_other (by omega)]; exact h.2 j h1 h2
theorem set_set {α : Type} (xs : List α) (i : Nat) (u v : α) : (xs.set i u).set i v = xs.set i v := by simp

theorem none_runs (n : Nat) (hn : n ≤ 3000) : Ev (fun k => lcs_none.f k (n : Int)) (List.replicate n (-1)) := by
  have loop : ∀ (d j : Nat) (x : List Int), n - j = d → j ≤ n → x.length = n → (∀ i, i < j → x.getD i 0 = -1) → Ev (fun k => lcs_none.l0 k x (n : Int) (j : Int)) (List.replicate n (-1)) := by
    intro d
    induction d with
    | zero =>
      intro j x hd hj hx hp
      refine Ev.step (f := fun _ => some (List.replicate n (-1))) (fun k => ?_) (Ev.now _)
      simp only [lcs_none.l0]
      rw [if_neg (by omega)]
      refine congrArg some (List.ext_getElem? fun i => ?_)
      by_cases hi : i < n
      · have := hp i (by omega)
        rw [List.getD_eq_getElem?_getD] at this
        rw [List.getElem?_replicate, if_pos hi]
        rw [List.getElem?_eq_getElem (by omega)] at this ⊢
        simpa using this
      · rw [List.getElem?_eq_none (by omega), List.getElem?_replicate, if_neg hi]
    | succ d ih =>
      intro j x hd hj hx hp
      refine Ev.step (f := fun k => lcs_none.l0 k (x.set j (-1)) (n : Int) ((j + 1 : Nat) : Int)) (fun k => ?_) (ih (j + 1) _ (by omega) (by omega) (by simpa using hx) (fun i hi => ?_))
      · simp only [lcs_none.l0]
        rw [if_pos (by omega), if_pos (by omega), if_pos (by omega), w64 (by omega) (by omega)]
        rfl
      · by_cases e : j = i
        · subst e; exact getD_set_same (by omega) _ _
        · rw [getD_set_other e]; exact hp i (by omega)
  refine Ev.congr (f := fun k => lcs_none.l0 k (List.replicate n 0) (n : Int) 0) (fun k => ?_) (loop n 0 _ (by omega) (by omega) (by simp) (fun i hi => by omega))
  simp only [lcs_none.f]
  rw [if_pos (by omega), if_pos (by omega)]
  rfl
theorem tab_of_row {a b : List Int} {i : Nat} {t : List (List Int)} (h : TabFrom a b (i + 1) t) (hr : RowFrom a b i 0 (t.getD i [])) : TabFrom a b i t := by
  refine ⟨h.1, fun j h1 h2 => ?_⟩
  by_cases e : i = j
  · subst e; exact hr
  · exact h.2 j (by omega) h2
theorem mx_nat (x y : Nat) : mx (x : Int) (y : Int) = ((max x y : Nat) : Int) := by unfold mx; split <;> omega
theorem left_runs (a b : List Int) (ha : a.length ≤ 3000) (hb : b.length ≤ 3000) : ∃ t, TabFrom a b 0 t ∧ Ev (fun k => lcs_left.f k a b) t := by
  have outer : ∀ (i : Nat), i ≤ a.length → ∀ t, TabFrom a b i t → ∃ t', TabFrom a b 0 t' ∧ Ev (fun k => lcs_left.l0 k a b t ((i : Int) - 1)) t' := by
    intro i
    induction i with
    | zero =>
      intro _ t ht
      refine ⟨t, ht, Ev.step (f := fun _ => some t) (fun k => ?_) (Ev.now _)⟩
      simp only [lcs_left.l0]
      rw [if_neg (by omega)]
    | succ i ihi =>
      intro hi t ht
      have inner : ∀ (j : Nat), j ≤ b.length → ∀ t, TabFrom a b (i + 1) t → RowFrom a b i j (t.getD i []) → ∃ t', TabFrom a b 0 t' ∧ Ev (fun k => lcs_left.l1 k a b t (i : Int) ((j : Int) - 1)) t' := by
        intro j
        induction j with
        | zero =>
          intro _ t ht hr
          obtain ⟨t', h1, h2⟩ := ihi (by omega) t (tab_of_row ht hr)
          refine ⟨t', h1, Ev.step (f := fun k => lcs_left.l0 k a b t ((i : Int) - 1)) (fun k => ?_) h2⟩
          simp only [lcs_left.l1]
          rw [if_neg (by omega), w64 (by omega) (by omega)]
        | succ j ihj =>
          intro hj t ht hr
          have hrow := ht.2 (i + 1) (Nat.le_refl _) hi
          have hlen := ht.1
          obtain ⟨t', h1, h2⟩ := ihj (by omega) (t.set i ((t.getD i []).set j (T a b i j : Int))) (tab_over ht _) (by rw [getD_set_same (by omega)]; exact row_step hr (by omega))
          refine ⟨t', h1, Ev.step (f := fun k => lcs_left.l1 k a b (t.set i ((t.getD i []).set j (T a b i j : Int))) (i : Int) ((j : Int) - 1)) (fun k => ?_) h2⟩
          have e1 : ((j + 1 : Nat) : Int) - 1 = (j : Int) := by omega
          have e2 : wrap64 ((i : Int) + 1) = ((i + 1 : Nat) : Int) := by rw [w64 (by omega) (by omega)]; omega
          have e3 : wrap64 ((j : Int) + 1) = ((j + 1 : Nat) : Int) := by rw [w64 (by omega) (by omega)]; omega
          have e4 : wrap64 ((j : Int) - 1) = (j : Int) - 1 := w64 (by omega) (by omega)
          have r1 : rd_L9 t ((i + 1 : Nat) : Int) = t.getD (i + 1) [] := rfl
          have r0 : rd_L9 t (i : Int) = t.getD i [] := rfl
          have hT := T_le a b (i + 1) (j + 1)
          simp only [lcs_left.l1]
          rw [e1, e2, e3, e4, r1, r0, if_pos (by omega), if_pos (by omega), if_pos (by omega), if_pos (by omega), if_pos (by omega)]
          by_cases he : a.getD i 0 = b.getD j 0
          · rw [if_pos (show rd a (i : Int) = rd b (j : Int) from he), if_pos (by omega), if_pos (by omega), if_pos (by omega), if_pos (by omega), if_pos (by rw [hrow.1]; omega), if_pos (by rw [hr.1]; omega)]
            simp only [rd_nat, Int.toNat_natCast]
            rw [hrow.2 (j + 1) (by omega) (by omega), w32 (by omega) (by omega), T_same (by omega) (by omega) he]
            rfl
          · rw [if_neg (show ¬ rd a (i : Int) = rd b (j : Int) from he), if_pos (by omega), if_pos (by omega), if_pos (by omega), if_pos (by rw [hrow.1]; omega), if_pos (by omega), if_pos (by rw [hr.1]; omega), if_pos (by rw [hr.1]; omega)]
            simp only [rd_nat, Int.toNat_natCast]
            rw [hrow.2 j (by omega) (by omega), hr.2 (j + 1) (by omega) (by omega), mx_nat, T_other (by omega) (by omega) he]
      have hlen := ht.1
      obtain ⟨t', h1, h2⟩ := inner b.length (Nat.le_refl _) (t.set i (List.replicate (wrap64 ((b.length : Int) + 1)).toNat 0)) (tab_over ht _) (by rw [getD_set_same (by omega)]; exact row_last a b _ (by rw [w64 (by omega) (by omega)]; omega) i)
      refine ⟨t', h1, Ev.step (f := fun k => lcs_left.l1 k a b (t.set i (List.replicate (wrap64 ((b.length : Int) + 1)).toNat 0)) (i : Int) ((b.length : Int) - 1)) (fun k => ?_) h2⟩
      have e1 : ((i + 1 : Nat) : Int) - 1 = (i : Int) := by omega
      have e2 : wrap64 ((b.length : Int) - 1) = (b.length : Int) - 1 := w64 (by omega) (by omega)
      have e3 : wrap64 ((b.length : Int) + 1) = (b.length : Int) + 1 := w64 (by omega) (by omega)
      simp only [lcs_left.l0]
      rw [e1, e2, e3, if_pos (by omega), if_pos (by omega), if_pos (by omega), if_pos (by omega), if_pos (by omega)]
      rfl
  have e3 : wrap64 ((b.length : Int) + 1) = (b.length : Int) + 1 := w64 (by omega) (by omega)
  have e4 : wrap64 ((a.length : Int) + 1) = (a.length : Int) + 1 := w64 (by omega) (by omega)
  have e5 : wrap64 ((a.length : Int) - 1) = (a.length : Int) - 1 := w64 (by omega) (by omega)
  have hl : (List.replicate ((a.length : Int) + 1).toNat ([] : List Int)).length = a.length + 1 := by rw [List.length_replicate]; omega
  obtain ⟨t', h1, h2⟩ := outer a.length (Nat.le_refl _) ((List.replicate ((a.length : Int) + 1).toNat []).set a.length (List.replicate ((b.length : Int) + 1).toNat 0)) ⟨by rw [List.length_set, hl], fun j h1 h2 => by
    obtain rfl : j = a.length := by omega
    rw [getD_set_same (by omega)]
    exact row_zero a b _ (by omega) (Nat.le_refl _)⟩
  refine ⟨t', h1, Ev.congr (fun k => ?_) h2⟩
  simp only [lcs_left.f]
  rw [e3, e4, e5, if_pos (by omega), if_pos (by omega), Option.bind_some, if_pos (by omega), if_pos (by omega), if_pos (by omega), if_pos (by rw [hl]; omega)]
  rfl
theorem w64s (i : Nat) (h : i ≤ 1000000000) : wrap64 ((i : Int) + 1) = ((i + 1 : Nat) : Int) := by rw [w64 (by omega) (by omega)]; omega
theorem set_mid (pre : List Int) (n : Nat) (v : Int) : (pre ++ List.replicate (n + 1) (-1)).set pre.length v = (pre ++ [v]) ++ List.replicate n (-1) := by
  rw [List.set_append_right _ _ (Nat.le_refl _), Nat.sub_self, List.replicate_succ, List.set_cons_zero, List.append_assoc]
  rfl
theorem match_loop (a b : List Int) (ha : a.length ≤ 3000) (hb : b.length ≤ 3000) (t : List (List Int)) (ht : TabFrom a b 0 t) : ∀ (d i j : Nat) (pre : List Int), (a.length - i) + (b.length - j) = d → i ≤ a.length → j ≤ b.length → pre.length = i →
    Ev (fun k => lcs_Match.l0 k a b (pre ++ List.replicate (a.length - i) (-1)) t (i : Int) (j : Int)) (pre ++ held (a.drop i) (b.drop j) j) := by
  intro d
  induction d using Nat.strongRecOn with
  | _ d ih =>
  intro i j pre hd hi hj hp
  by_cases h1 : i < a.length
  · by_cases h2 : j < b.length
    · have hn : a.length - i = (a.length - (i + 1)) + 1 := (Nat.succ_pred_eq_of_pos (Nat.sub_pos_of_lt h1)).symm
      have hlen := ht.1
      have r1 := ht.2 (i + 1) (Nat.zero_le _) (by omega)
      have r0 := ht.2 i (Nat.zero_le _) (by omega)
      have q1 : rd_L9 t ((i + 1 : Nat) : Int) = t.getD (i + 1) [] := rfl
      have q0 : rd_L9 t (i : Int) = t.getD i [] := rfl
      have hol : (pre ++ List.replicate (a.length - i) (-1)).length = a.length := by rw [List.length_append, List.length_replicate]; omega
      refine Ev.step (f := fun k => lcs_Match.j2 k a b (pre ++ List.replicate (a.length - i) (-1)) t (i : Int) (j : Int) true) (fun k => ?_) ?_
      · simp only [lcs_Match.l0]
        rw [if_pos (by omega), decide_eq_true (by omega)]
      by_cases he : a.getD i 0 = b.getD j 0
      · refine Ev.step (f := fun k => lcs_Match.l0 k a b ((pre ++ [(j : Int)]) ++ List.replicate (a.length - (i + 1)) (-1)) t ((i + 1 : Nat) : Int) ((j + 1 : Nat) : Int)) (fun k => ?_) ?_
        · simp only [lcs_Match.j2]
          rw [if_pos trivial, if_pos (by omega), if_pos (by omega), if_pos (by omega), if_pos (by omega), if_pos (show rd a (i : Int) = rd b (j : Int) from he), if_pos (by rw [hol]; omega), w64s i (by omega), w64s j (by omega)]
          rw [Int.toNat_natCast, hn, ← hp, set_mid, hp]
        · have := ih ((a.length - (i + 1)) + (b.length - (j + 1))) (by omega) (i + 1) (j + 1) (pre ++ [(j : Int)]) rfl (by omega) (by omega) (by rw [List.length_append, hp]; rfl)
          rw [drop_get h1, drop_get h2, he, held_same]
          simpa using this
      · by_cases hg : T a b (i + 1) j ≥ T a b i (j + 1)
        · refine Ev.step (f := fun k => lcs_Match.l0 k a b ((pre ++ [-1]) ++ List.replicate (a.length - (i + 1)) (-1)) t ((i + 1 : Nat) : Int) (j : Int)) (fun k => ?_) ?_
          · simp only [lcs_Match.j2]
            rw [if_pos trivial, if_pos (by omega), if_pos (by omega), if_pos (by omega), if_pos (by omega), if_neg (show ¬ rd a (i : Int) = rd b (j : Int) from he), w64s i (by omega), w64s j (by omega), q1, q0, if_pos (by omega), if_pos (by omega), if_pos (by rw [r1.1]; omega), if_pos (by omega), if_pos (by omega), if_pos (by rw [r0.1]; omega), if_pos (by rw [rd_nat, rd_nat, r1.2 j (by omega) (by omega), r0.2 (j + 1) (by omega) (by omega)]; omega)]
            rw [show a.length - i = (a.length - (i + 1)) + 1 by omega, List.replicate_succ, List.append_assoc]
            rfl
          · have := ih ((a.length - (i + 1)) + (b.length - j)) (by omega) (i + 1) j (pre ++ [-1]) rfl (by omega) (by omega) (by rw [List.length_append, hp]; rfl)
            rw [drop_get h1, drop_get h2, held_skip he _ _ _ (by rw [← drop_get h1, ← drop_get h2]; exact hg), ← drop_get h2]
            simpa using this
        · refine Ev.step (f := fun k => lcs_Match.l0 k a b (pre ++ List.replicate (a.length - i) (-1)) t (i : Int) ((j + 1 : Nat) : Int)) (fun k => ?_) ?_
          · simp only [lcs_Match.j2]
            rw [if_pos trivial, if_pos (by omega), if_pos (by omega), if_pos (by omega), if_pos (by omega), if_neg (show ¬ rd a (i : Int) = rd b (j : Int) from he), w64s i (by omega), w64s j (by omega), q1, q0, if_pos (by omega), if_pos (by omega), if_pos (by rw [r1.1]; omega), if_pos (by omega), if_pos (by omega), if_pos (by rw [r0.1]; omega), if_neg (by rw [rd_nat, rd_nat, r1.2 j (by omega) (by omega), r0.2 (j + 1) (by omega) (by omega)]; omega)]
          · have := ih ((a.length - i) + (b.length - (j + 1))) (by omega) i (j + 1) pre rfl (by omega) (by omega) hp
            rw [drop_get h1, drop_get h2, held_turn he _ _ _ (by rw [← drop_get h1, ← drop_get h2]; exact hg), ← drop_get h1]
            exact this
    · refine Ev.step (f := fun k => lcs_Match.j2 k a b (pre ++ List.replicate (a.length - i) (-1)) t (i : Int) (j : Int) false) (fun k => ?_) (Ev.step (f := fun _ => some (pre ++ List.replicate (a.length - i) (-1))) (fun k => ?_) ?_)
      · simp only [lcs_Match.l0]
        rw [if_pos (by omega), decide_eq_false (by omega)]
      · simp only [lcs_Match.j2]
        rw [if_neg (by decide)]
      · rw [List.drop_eq_nil_of_le (by omega : b.length ≤ j), held_nil_r, List.length_drop]
        exact Ev.now _
  · refine Ev.step (f := fun k => lcs_Match.j2 k a b (pre ++ List.replicate (a.length - i) (-1)) t (i : Int) (j : Int) false) (fun k => ?_) (Ev.step (f := fun _ => some (pre ++ List.replicate (a.length - i) (-1))) (fun k => ?_) ?_)
    · simp only [lcs_Match.l0]
      rw [if_neg (by omega)]
    · simp only [lcs_Match.j2]
      rw [if_neg (by decide)]
    · rw [List.drop_eq_nil_of_le (by omega : a.length ≤ i), show a.length - i = 0 by omega, held]
      exact Ev.now _
theorem match_runs (a b : List Int) (ha : a.length ≤ 2000) (hb : b.length ≤ 2000) : Ev (fun k => lcs_Match.f k a b) (held a b 0) := by
  obtain ⟨t, ht, he⟩ := left_runs a b (by omega) (by omega)
  refine Ev.bind (f := fun k t140 => if (a.length : Int) > 2000 then lcs_Match.j0 k a b t140 true else lcs_Match.j0 k a b t140 (decide ((b.length : Int) > 2000))) (none_runs a.length (by omega)) ?_
  refine Ev.congr (f := fun k => lcs_Match.j0 k a b (List.replicate a.length (-1)) false) (fun k => ?_) (Ev.step (f := fun k => (lcs_left.f k a b).bind fun t146 => lcs_Match.l0 k a b (List.replicate a.length (-1)) t146 0 0) (fun k => ?_) (Ev.bind he ?_))
  · show (if (a.length : Int) > 2000 then _ else _) = _
    rw [if_neg (by omega), decide_eq_false (by omega)]
  · simp only [lcs_Match.j0]
    rw [if_neg (by decide)]
  · have := match_loop a b (by omega) (by omega) t ht _ 0 0 [] rfl (by omega) (by omega) rfl
    simpa using this
/-! ### the reference -/
theorem table_runs (a b : List Int) (ha : a.length ≤ 3000) (hb : b.length ≤ 3000) : ∃ t, TabFrom a b 0 t ∧ Ev (fun k => r05_table.f k a b) t := by
  have e3 : wrap64 ((b.length : Int) + 1) = (b.length : Int) + 1 := w64 (by omega) (by omega)
  have e4 : wrap64 ((a.length : Int) + 1) = (a.length : Int) + 1 := w64 (by omega) (by omega)
  have e5 : wrap64 ((a.length : Int) - 1) = (a.length : Int) - 1 := w64 (by omega) (by omega)
  have e6 : wrap64 ((b.length : Int) - 1) = (b.length : Int) - 1 := w64 (by omega) (by omega)
  have outer : ∀ (i : Nat), i ≤ a.length → ∀ t, TabFrom a b i t → (∀ q, q < i → RowFrom a b q b.length (t.getD q [])) → ∃ t', TabFrom a b 0 t' ∧ Ev (fun k => r05_table.l1 k a b t ((i : Int) - 1)) t' := by
    intro i
    induction i with
    | zero =>
      intro _ t ht _
      refine ⟨t, ht, Ev.step (f := fun _ => some t) (fun k => ?_) (Ev.now _)⟩
      simp only [r05_table.l1]
      rw [if_neg (by omega)]
    | succ i ihi =>
      intro hi t ht hz
      have inner : ∀ (j : Nat), j ≤ b.length → ∀ t, TabFrom a b (i + 1) t → (∀ q, q < i → RowFrom a b q b.length (t.getD q [])) → RowFrom a b i j (t.getD i []) → ∃ t', TabFrom a b 0 t' ∧ Ev (fun k => r05_table.l2 k a b t (i : Int) ((j : Int) - 1)) t' := by
        intro j
        induction j with
        | zero =>
          intro _ t ht hz hr
          obtain ⟨t', h1, h2⟩ := ihi (by omega) t (tab_of_row ht hr) hz
          refine ⟨t', h1, Ev.step (f := fun k => r05_table.l1 k a b t ((i : Int) - 1)) (fun k => ?_) h2⟩
          simp only [r05_table.l2]
          rw [if_neg (by omega), w64 (by omega) (by omega)]
        | succ j ihj =>
          intro hj t ht hz hr
          have hrow := ht.2 (i + 1) (Nat.le_refl _) hi
          have hlen := ht.1
          obtain ⟨t', h1, h2⟩ := ihj (by omega) (t.set i ((t.getD i []).set j (T a b i j : Int))) (tab_over ht _) (fun q hq => by rw [getD_set_other (by omega)]; exact hz q hq) (by rw [getD_set_same (by omega)]; exact row_step hr (by omega))
          refine ⟨t', h1, Ev.step (f := fun k => r05_table.l2 k a b (t.set i ((t.getD i []).set j (T a b i j : Int))) (i : Int) ((j : Int) - 1)) (fun k => ?_) h2⟩
          have e1 : ((j + 1 : Nat) : Int) - 1 = (j : Int) := by omega
          have r1 : rd_L2 t ((i + 1 : Nat) : Int) = t.getD (i + 1) [] := rfl
          have r0 : rd_L2 t (i : Int) = t.getD i [] := rfl
          have hT := T_le a b (i + 1) (j + 1)
          simp only [r05_table.l2]
          rw [e1, w64s i (by omega), w64s j (by omega), w64 (x := (j : Int) - 1) (by omega) (by omega), r1, r0, if_pos (by omega), if_pos (by omega), if_pos (by omega), if_pos (by omega), if_pos (by omega)]
          by_cases he : a.getD i 0 = b.getD j 0
          · rw [if_pos (show rd a (i : Int) = rd b (j : Int) from he), if_pos (by omega), if_pos (by omega), if_pos (by omega), if_pos (by omega), if_pos (by rw [hrow.1]; omega), if_pos (by rw [hr.1]; omega)]
            simp only [rd_nat, Int.toNat_natCast]
            rw [hrow.2 (j + 1) (by omega) (by omega), w64 (by omega) (by omega), T_same (by omega) (by omega) he]
            rfl
          · rw [if_neg (show ¬ rd a (i : Int) = rd b (j : Int) from he), if_pos (by omega), if_pos (by omega), if_pos (by omega), if_pos (by rw [hrow.1]; omega), if_pos (by omega), if_pos (by rw [hr.1]; omega), if_pos (by rw [hr.1]; omega)]
            simp only [rd_nat, Int.toNat_natCast]
            rw [hrow.2 j (by omega) (by omega), hr.2 (j + 1) (by omega) (by omega), mx_nat, T_other (by omega) (by omega) he]
      obtain ⟨t', h1, h2⟩ := inner b.length (Nat.le_refl _) t ht (fun q hq => hz q (by omega)) (hz i (by omega))
      refine ⟨t', h1, Ev.step (f := fun k => r05_table.l2 k a b t (i : Int) ((b.length : Int) - 1)) (fun k => ?_) h2⟩
      have e1 : ((i + 1 : Nat) : Int) - 1 = (i : Int) := by omega
      simp only [r05_table.l1]
      rw [e1, e6, if_pos (by omega)]
  have fill : ∀ (d i : Nat) (t : List (List Int)), a.length + 1 - i = d → i ≤ a.length + 1 → t.length = a.length + 1 → (∀ q, q < i → t.getD q [] = List.replicate (b.length + 1) 0) → ∃ t', TabFrom a b 0 t' ∧ Ev (fun k => r05_table.l0 k a b t (i : Int)) t' := by
    intro d
    induction d with
    | zero =>
      intro i t hd hi hl hz
      obtain rfl : i = a.length + 1 := by clear e3 e4 e5 e6; omega
      obtain ⟨t', h1, h2⟩ := outer a.length (Nat.le_refl _) t ⟨hl, fun j h1 h2 => by rw [hz j (by clear e3 e4 e5 e6; omega)]; exact row_zero a b _ rfl h1⟩ (fun q hq => by rw [hz q (by clear e3 e4 e5 e6; omega)]; exact row_last a b _ rfl q)
      refine ⟨t', h1, Ev.step (f := fun k => r05_table.l1 k a b t ((a.length : Int) - 1)) (fun k => ?_) h2⟩
      simp only [r05_table.l0]
      rw [if_neg (by clear e3 e4 e5 e6; omega), e5]
    | succ d ih =>
      intro i t hd hi hl hz
      obtain ⟨t', h1, h2⟩ := ih (i + 1) (t.set i (List.replicate (b.length + 1) 0)) (by clear e3 e4 e5 e6; omega) (by clear e3 e4 e5 e6; omega) (by rw [List.length_set]; exact hl) (fun q hq => by
        by_cases e : i = q
        · subst e; exact getD_set_same (by clear e3 e4 e5 e6; omega) _ _
        · rw [getD_set_other e]; exact hz q (by clear e3 e4 e5 e6; omega))
      refine ⟨t', h1, Ev.step (f := fun k => r05_table.l0 k a b (t.set i (List.replicate (b.length + 1) 0)) ((i + 1 : Nat) : Int)) (fun k => ?_) h2⟩
      simp only [r05_table.l0]
      rw [e3, if_pos (by clear e3 e4 e5 e6; omega), if_pos (by clear e3 e4 e5 e6; omega), if_pos (by clear e3 e4 e5 e6; omega), if_pos (by clear e3 e4 e5 e6; omega), if_pos (by clear e3 e4 e5 e6; omega), w64s i (by clear e3 e4 e5 e6; omega)]
      rfl
  obtain ⟨t', h1, h2⟩ := fill _ 0 (List.replicate (a.length + 1) []) rfl (Nat.zero_le _) (by simp) (fun q hq => by omega)
  refine ⟨t', h1, Ev.congr (fun k => ?_) h2⟩
  simp only [r05_table.f]
  rw [e4, if_pos (by clear e3 e4 e5 e6; omega), if_pos (by clear e3 e4 e5 e6; omega)]
  rfl
theorem ref_loop (a b : List Int) (ha : a.length ≤ 3000) (hb : b.length ≤ 3000) (t : List (List Int)) (ht : TabFrom a b 0 t) : ∀ (d i j : Nat) (pre : List Int), (a.length - i) + (b.length - j) = d → i ≤ a.length → j ≤ b.length → pre.length = i →
    Ev (fun k => r05_Match.l3 k a b (pre ++ List.replicate (a.length - i) (-1)) t (i : Int) (j : Int)) (pre ++ held (a.drop i) (b.drop j) j) := by
  intro d
  induction d using Nat.strongRecOn with
  | _ d ih =>
  intro i j pre hd hi hj hp
  by_cases h1 : i < a.length
  · by_cases h2 : j < b.length
    · have hn : a.length - i = (a.length - (i + 1)) + 1 := (Nat.succ_pred_eq_of_pos (Nat.sub_pos_of_lt h1)).symm
      have hlen := ht.1
      have r1 := ht.2 (i + 1) (Nat.zero_le _) (by omega)
      have r0 := ht.2 i (Nat.zero_le _) (by omega)
      have q1 : rd_L2 t ((i + 1 : Nat) : Int) = t.getD (i + 1) [] := rfl
      have q0 : rd_L2 t (i : Int) = t.getD i [] := rfl
      have hol : (pre ++ List.replicate (a.length - i) (-1)).length = a.length := by rw [List.length_append, List.length_replicate]; omega
      refine Ev.step (f := fun k => r05_Match.j6 k a b (pre ++ List.replicate (a.length - i) (-1)) t (i : Int) (j : Int) true) (fun k => ?_) ?_
      · simp only [r05_Match.l3]
        rw [if_pos (by omega), decide_eq_true (by omega)]
      by_cases he : a.getD i 0 = b.getD j 0
      · refine Ev.step (f := fun k => r05_Match.l3 k a b ((pre ++ [(j : Int)]) ++ List.replicate (a.length - (i + 1)) (-1)) t ((i + 1 : Nat) : Int) ((j + 1 : Nat) : Int)) (fun k => ?_) ?_
        · simp only [r05_Match.j6]
          rw [if_pos trivial, if_pos (by omega), if_pos (by omega), if_pos (by omega), if_pos (by omega), if_pos (show rd a (i : Int) = rd b (j : Int) from he), if_pos (by rw [hol]; omega), w64s i (by omega), w64s j (by omega)]
          rw [Int.toNat_natCast, hn, ← hp, set_mid, hp]
        · have := ih ((a.length - (i + 1)) + (b.length - (j + 1))) (by omega) (i + 1) (j + 1) (pre ++ [(j : Int)]) rfl (by omega) (by omega) (by rw [List.length_append, hp]; rfl)
          rw [drop_get h1, drop_get h2, he, held_same]
          simpa using this
      · by_cases hg : T a b (i + 1) j ≥ T a b i (j + 1)
        · refine Ev.step (f := fun k => r05_Match.l3 k a b ((pre ++ [-1]) ++ List.replicate (a.length - (i + 1)) (-1)) t ((i + 1 : Nat) : Int) (j : Int)) (fun k => ?_) ?_
          · simp only [r05_Match.j6]
            rw [if_pos trivial, if_pos (by omega), if_pos (by omega), if_pos (by omega), if_pos (by omega), if_neg (show ¬ rd a (i : Int) = rd b (j : Int) from he), w64s i (by omega), w64s j (by omega), q1, q0, if_pos (by omega), if_pos (by omega), if_pos (by rw [r1.1]; omega), if_pos (by omega), if_pos (by omega), if_pos (by rw [r0.1]; omega), if_pos (by rw [rd_nat, rd_nat, r1.2 j (by omega) (by omega), r0.2 (j + 1) (by omega) (by omega)]; omega)]
            rw [hn, List.replicate_succ, List.append_assoc]
            rfl
          · have := ih ((a.length - (i + 1)) + (b.length - j)) (by omega) (i + 1) j (pre ++ [-1]) rfl (by omega) (by omega) (by rw [List.length_append, hp]; rfl)
            rw [drop_get h1, drop_get h2, held_skip he _ _ _ (by rw [← drop_get h1, ← drop_get h2]; exact hg), ← drop_get h2]
            simpa using this
        · refine Ev.step (f := fun k => r05_Match.l3 k a b (pre ++ List.replicate (a.length - i) (-1)) t (i : Int) ((j + 1 : Nat) : Int)) (fun k => ?_) ?_
          · simp only [r05_Match.j6]
            rw [if_pos trivial, if_pos (by omega), if_pos (by omega), if_pos (by omega), if_pos (by omega), if_neg (show ¬ rd a (i : Int) = rd b (j : Int) from he), w64s i (by omega), w64s j (by omega), q1, q0, if_pos (by omega), if_pos (by omega), if_pos (by rw [r1.1]; omega), if_pos (by omega), if_pos (by omega), if_pos (by rw [r0.1]; omega), if_neg (by rw [rd_nat, rd_nat, r1.2 j (by omega) (by omega), r0.2 (j + 1) (by omega) (by omega)]; omega)]
          · have := ih ((a.length - i) + (b.length - (j + 1))) (by omega) i (j + 1) pre rfl (by omega) (by omega) hp
            rw [drop_get h1, drop_get h2, held_turn he _ _ _ (by rw [← drop_get h1, ← drop_get h2]; exact hg), ← drop_get h1]
            exact this
    · refine Ev.step (f := fun k => r05_Match.j6 k a b (pre ++ List.replicate (a.length - i) (-1)) t (i : Int) (j : Int) false) (fun k => ?_) (Ev.step (f := fun _ => some (pre ++ List.replicate (a.length - i) (-1))) (fun k => ?_) ?_)
      · simp only [r05_Match.l3]
        rw [if_pos (by omega), decide_eq_false (by omega)]
      · simp only [r05_Match.j6]
        rw [if_neg (by decide)]
      · rw [List.drop_eq_nil_of_le (by omega : b.length ≤ j), held_nil_r, List.length_drop]
        exact Ev.now _
  · refine Ev.step (f := fun k => r05_Match.j6 k a b (pre ++ List.replicate (a.length - i) (-1)) t (i : Int) (j : Int) false) (fun k => ?_) (Ev.step (f := fun _ => some (pre ++ List.replicate (a.length - i) (-1))) (fun k => ?_) ?_)
    · simp only [r05_Match.l3]
      rw [if_neg (by omega)]
    · simp only [r05_Match.j6]
      rw [if_neg (by decide)]
    · rw [List.drop_eq_nil_of_le (by omega : a.length ≤ i), show a.length - i = 0 by omega, held]
      exact Ev.now _
theorem ref_fill (a b : List Int) (ha : a.length ≤ 3000) (r : List Int) (big : Bool) (hbig : big = (decide (2000 < a.length) || decide (2000 < b.length))) (h : Ev (fun k => r05_Match.j1 k a b (List.replicate a.length (-1)) big) r) : ∀ (d i : Nat), a.length - i = d → i ≤ a.length → Ev (fun k => r05_Match.l0 k a b (List.replicate i (-1)) (i : Int)) r := by
  intro d
  induction d with
  | zero =>
    intro i hd hi
    obtain rfl : i = a.length := by omega
    refine Ev.step (f := fun k => r05_Match.j1 k a b (List.replicate a.length (-1)) big) (fun k => ?_) h
    simp only [r05_Match.l0]
    rw [if_neg (by omega)]
    by_cases h1 : (a.length : Int) > 2000
    · rw [if_pos h1, hbig, decide_eq_true (show 2000 < a.length by omega), Bool.true_or]
    · rw [if_neg h1, hbig, decide_eq_false (show ¬ 2000 < a.length by omega), Bool.false_or, show decide ((b.length : Int) > 2000) = decide (2000 < b.length) from decide_eq_decide.2 (by omega)]
  | succ d ih =>
    intro i hd hi
    refine Ev.step (f := fun k => r05_Match.l0 k a b (List.replicate (i + 1) (-1)) ((i + 1 : Nat) : Int)) (fun k => ?_) (ih (i + 1) (by omega) (by omega))
    simp only [r05_Match.l0]
    rw [if_pos (by omega), if_pos (by rw [List.length_replicate]; omega), w64s i (by omega), ← List.replicate_succ']
theorem ref_runs (a b : List Int) (ha : a.length ≤ 2000) (hb : b.length ≤ 2000) : Ev (fun k => r05_Match.f k a b) (held a b 0) := by
  obtain ⟨t, ht, he⟩ := table_runs a b (by omega) (by omega)
  have := ref_fill a b (by omega) (held a b 0) false (by rw [decide_eq_false (by omega), decide_eq_false (by omega)]; rfl) (Ev.step (f := fun k => (r05_table.f k a b).bind fun t261 => r05_Match.l3 k a b (List.replicate a.length (-1)) t261 0 0) (fun k => by simp only [r05_Match.j1]; rw [if_neg (by decide)]) (Ev.bind he (by
    have := ref_loop a b (by omega) (by omega) t ht _ 0 0 [] rfl (by omega) (by omega) rfl
    simpa using this))) _ 0 rfl (Nat.zero_le _)
  exact this
/-! ### texts as numbers: what both come to -/
def grow (l : List ByteArray) (s : ByteArray) : List ByteArray := if lcs_Numbers.has l s = true then l else l ++ [s]
def seenBy : List ByteArray → List ByteArray → List ByteArray
  | [], l => l
  | s :: r, l => seenBy r (grow l s)
def nums : List ByteArray → List ByteArray → List Int
  | [], _ => []
  | s :: r, l => (lcs_Numbers.ix l s : Int) :: nums r (grow l s)
def numsAll : List (List ByteArray) → List ByteArray → List (List Int)
  | [], _ => []
  | r :: rs, l => nums r l :: numsAll rs (seenBy r l)
theorem grow_length (l : List ByteArray) (s : ByteArray) : (grow l s).length ≤ l.length + 1 := by unfold grow; split <;> simp
theorem seenBy_length : ∀ (r l : List ByteArray), (seenBy r l).length ≤ l.length + r.length
  | [], l => by simp [seenBy]
  | s :: r, l => by
    have h1 := seenBy_length r (grow l s)
    have h2 := grow_length l s
    rw [seenBy, List.length_cons]; omega
theorem nums_length : ∀ (r l : List ByteArray), (nums r l).length = r.length
  | [], l => rfl
  | s :: r, l => by rw [nums, List.length_cons, List.length_cons, nums_length r]
theorem numsAll_length : ∀ (rs : List (List ByteArray)) (l : List ByteArray), (numsAll rs l).length = rs.length
  | [], l => rfl
  | r :: rs, l => by rw [numsAll, List.length_cons, List.length_cons, numsAll_length rs]
theorem ix_le (l : List ByteArray) (s : ByteArray) : lcs_Numbers.ix l s ≤ l.length := List.findIdx_le_length
theorem has_iff (l : List ByteArray) (s : ByteArray) : lcs_Numbers.has l s = true ↔ lcs_Numbers.ix l s < l.length := by
  unfold lcs_Numbers.has lcs_Numbers.ix
  rw [List.findIdx_lt_length, List.any_eq_true]
theorem ix_none {l : List ByteArray} {s : ByteArray} (h : ¬ lcs_Numbers.has l s = true) : lcs_Numbers.ix l s = l.length := by
  have h1 := ix_le l s
  rw [has_iff] at h; omega
theorem drop_getS {xs : List ByteArray} {i : Nat} (h : i < xs.length) : xs.drop i = xs.getD i ByteArray.empty :: xs.drop (i + 1) := by
  rw [List.drop_eq_getElem_cons h, List.getD_eq_getElem?_getD, List.getElem?_eq_getElem h]; rfl
theorem drop_getL {α : Type} {xs : List (List α)} {i : Nat} (h : i < xs.length) : xs.drop i = xs.getD i [] :: xs.drop (i + 1) := by
  rw [List.drop_eq_getElem_cons h, List.getD_eq_getElem?_getD, List.getElem?_eq_getElem h]; rfl
theorem getD_memS {α : Type} {xs : List α} {i : Nat} (h : i < xs.length) (d : α) : xs.getD i d ∈ xs := by
  rw [List.getD_eq_getElem?_getD, List.getElem?_eq_getElem h]; exact List.getElem_mem h
/-- rows that are short enough -/
def Few (rows : List (List ByteArray)) : Prop := rows.length ≤ 1000 ∧ ∀ r ∈ rows, r.length ≤ 1000 ∧ ∀ s ∈ r, s.size ≤ 140737488355328
theorem numbers_row {rows : List (List ByteArray)} (hf : Few rows) {i : Nat} (hi : i < rows.length) (out : List (List Int)) (hout : out.length = i) (res : List (List Int)) :
    ∀ (d j : Nat) (seen : List ByteArray) (l : List Int), (rows.getD i []).length - j = d → j ≤ (rows.getD i []).length → seen.length ≤ i * 1000 + j → l.length = j →
      Ev (fun k => lcs_Numbers.l0 k rows (seenBy ((rows.getD i []).drop j) seen) (out ++ [l ++ nums ((rows.getD i []).drop j) seen]) ((i + 1 : Nat) : Int)) res →
      Ev (fun k => lcs_Numbers.l1 k rows seen out (i : Int) l (j : Int)) res := by
  obtain ⟨hr, hs⟩ := hf.2 _ (getD_memS hi [])
  have hn := hf.1
  intro d
  induction d with
  | zero =>
    intro j seen l hd hj hseen hl h
    have e0 : (rows.getD i []).drop j = [] := List.drop_eq_nil_of_le (by omega)
    rw [e0, seenBy, nums, List.append_nil] at h
    refine Ev.step (fun k => ?_) h
    simp only [lcs_Numbers.l1]
    rw [if_neg (show ¬ (j : Int) < ((rd_L5 rows (i : Int)).length : Int) from (show ¬ (j : Int) < ((rows.getD i []).length : Int) by omega)), if_pos (by omega), w64s i (by omega)]
  | succ d ih =>
    intro j seen l hd hj hseen hl h
    have hj' : j < (rows.getD i []).length := by omega
    rw [drop_getS hj', seenBy, nums] at h
    have hz := hs _ (getD_memS hj' ByteArray.empty)
    refine Ev.step (f := fun k => lcs_Numbers.l1 k rows (grow seen ((rows.getD i []).getD j ByteArray.empty)) out (i : Int) (l ++ [(lcs_Numbers.ix seen ((rows.getD i []).getD j ByteArray.empty) : Int)]) ((j + 1 : Nat) : Int)) (fun k => ?_)
      (ih (j + 1) _ _ (by omega) (by omega) (Nat.le_trans (grow_length _ _) (by omega)) (by simp [hl]) (by rw [List.append_assoc]; exact h))
    simp only [lcs_Numbers.l1]
    rw [if_pos (show (j : Int) < ((rd_L5 rows (i : Int)).length : Int) from (show (j : Int) < ((rows.getD i []).length : Int) by omega)), if_pos (by omega), if_pos (show (rdOf ByteArray.empty (rd_L5 rows (i : Int)) (j : Int)).size ≤ 140737488355328 from hz), if_pos (by omega), if_pos (by omega), w64s j (by omega)]
    show (if lcs_Numbers.has seen ((rows.getD i []).getD j ByteArray.empty) = true then _ else _) = _
    by_cases hh : lcs_Numbers.has seen ((rows.getD i []).getD j ByteArray.empty) = true
    · rw [if_pos hh, grow, if_pos hh]; rfl
    · rw [if_neg hh, grow, if_neg hh, ix_none hh]; rfl
theorem numbers_rows {rows : List (List ByteArray)} (hf : Few rows) : ∀ (d i : Nat) (seen : List ByteArray) (out : List (List Int)), rows.length - i = d → i ≤ rows.length → seen.length ≤ i * 1000 → out.length = i →
    Ev (fun k => lcs_Numbers.l0 k rows seen out (i : Int)) (out ++ numsAll (rows.drop i) seen) := by
  have hn := hf.1
  intro d
  induction d with
  | zero =>
    intro i seen out hd hi hseen hout
    rw [List.drop_eq_nil_of_le (by omega), numsAll, List.append_nil]
    refine Ev.step (f := fun _ => some out) (fun k => ?_) (Ev.now _)
    simp only [lcs_Numbers.l0]
    rw [if_neg (by omega)]
  | succ d ih =>
    intro i seen out hd hi hseen hout
    have hi' : i < rows.length := by omega
    have hr := (hf.2 _ (getD_memS hi' [])).1
    rw [drop_getL hi', numsAll]
    refine Ev.step (f := fun k => lcs_Numbers.l1 k rows seen out (i : Int) [] ((0 : Nat) : Int)) (fun k => ?_) ?_
    · simp only [lcs_Numbers.l0]
      rw [if_pos (by omega), if_pos (by omega)]; rfl
    · refine numbers_row hf hi' out hout _ _ 0 seen [] rfl (Nat.zero_le _) (by rw [Nat.add_zero]; exact hseen) rfl ?_
      rw [List.drop_zero, List.nil_append, show out ++ nums (rows.getD i []) seen :: numsAll (rows.drop (i + 1)) (seenBy (rows.getD i []) seen) = (out ++ [nums (rows.getD i []) seen]) ++ numsAll (rows.drop (i + 1)) (seenBy (rows.getD i []) seen) by rw [List.append_assoc]; rfl]
      exact ih (i + 1) _ _ (by omega) (by omega) (Nat.le_trans (seenBy_length _ _) (by omega)) (by simp [hout])
theorem numbers_run {rows : List (List ByteArray)} (hf : Few rows) : Ev (fun k => lcs_Numbers.f k rows) (numsAll rows []) := by
  have := numbers_rows hf _ 0 [] [] rfl (Nat.zero_le _) (Nat.zero_le _) rfl
  unfold lcs_Numbers.f
  simpa using this
/-! the document's own -/
theorem ref_place {rows : List (List ByteArray)} (hf : Few rows) {i : Nat} (hi : i < rows.length) (out : List (List Int)) {j : Nat} (hj : j < (rows.getD i []).length) (seen : List ByteArray) (hseen : seen.length ≤ i * 1000 + j) (l : List Int) (hl : l.length = j) (res : List (List Int))
    (h : Ev (fun k => r05_Numbers.l1 k rows (grow seen ((rows.getD i []).getD j ByteArray.empty)) out (i : Int) (l ++ [(lcs_Numbers.ix seen ((rows.getD i []).getD j ByteArray.empty) : Int)]) ((j + 1 : Nat) : Int)) res) :
    ∀ (d n : Nat), lcs_Numbers.ix seen ((rows.getD i []).getD j ByteArray.empty) - n = d → n ≤ lcs_Numbers.ix seen ((rows.getD i []).getD j ByteArray.empty) →
      Ev (fun k => r05_Numbers.l2 k rows seen out (i : Int) l (j : Int) (n : Int)) res := by
  obtain ⟨hr, hs⟩ := hf.2 _ (getD_memS hi [])
  have hn := hf.1
  have hix := ix_le seen ((rows.getD i []).getD j ByteArray.empty)
  obtain ⟨s, es⟩ : ∃ s, s = (rows.getD i []).getD j ByteArray.empty := ⟨_, rfl⟩
  rw [← es] at h hix ⊢
  intro d
  induction d with
  | zero =>
    intro n hd hn'
    have en : n = lcs_Numbers.ix seen s := by omega
    by_cases hh : lcs_Numbers.has seen s = true
    · have hlt := (has_iff seen s).1 hh
      have heq : (seen.getD n ByteArray.empty).data.toList = s.data.toList := by
        have := List.findIdx_getElem (xs := seen) (p := fun t : ByteArray => t.data.toList == s.data.toList) (w := hlt)
        rw [List.getD_eq_getElem?_getD, List.getElem?_eq_getElem (by rw [en]; exact hlt)]
        subst en
        simpa [lcs_Numbers.ix] using this
      rw [grow, if_pos hh, ← en] at h
      refine Ev.step (fun k => ?_) h
      simp only [r05_Numbers.l2]
      rw [if_pos (by omega), if_pos (by omega), if_pos (by omega), if_pos (by omega), if_pos (by omega), if_pos (show (j : Int) < ((rd_L5 rows (i : Int)).length : Int) from (show (j : Int) < ((rows.getD i []).length : Int) by omega)),
        if_pos (show (rdOf ByteArray.empty seen (n : Int)).toList = (rdOf ByteArray.empty (rd_L5 rows (i : Int)) (j : Int)).toList from show (seen.getD n ByteArray.empty).toList = ((rows.getD i []).getD j ByteArray.empty).toList by rw [← es, ByteArray.toList_eq, ByteArray.toList_eq]; exact heq), if_neg (by omega), if_pos (by omega), w64s j (by omega)]
    · have e1 := ix_none hh
      rw [grow, if_neg hh, ← en] at h
      refine Ev.step (fun k => ?_) h
      simp only [r05_Numbers.l2]
      rw [if_neg (by omega), if_pos (by omega), if_pos (by omega), if_pos (by omega), if_pos (by omega), if_pos (show (j : Int) < ((rd_L5 rows (i : Int)).length : Int) from (show (j : Int) < ((rows.getD i []).length : Int) by omega)), if_pos (by omega), if_pos (by omega), w64s j (by omega), es]; rfl
  | succ d ih =>
    intro n hd hn'
    have hlt : n < seen.length := by omega
    have hne : ¬ (seen.getD n ByteArray.empty).data.toList = s.data.toList := by
      have := List.not_of_lt_findIdx (xs := seen) (p := fun t : ByteArray => t.data.toList == s.data.toList) (i := n) (show n < lcs_Numbers.ix seen s by omega)
      rw [List.getD_eq_getElem?_getD, List.getElem?_eq_getElem hlt]
      simpa using this
    refine Ev.step (f := fun k => r05_Numbers.l2 k rows seen out (i : Int) l (j : Int) ((n + 1 : Nat) : Int)) (fun k => ?_) (ih (n + 1) (by omega) (by omega))
    simp only [r05_Numbers.l2]
    rw [if_pos (by omega), if_pos (by omega), if_pos (by omega), if_pos (by omega), if_pos (by omega), if_pos (show (j : Int) < ((rd_L5 rows (i : Int)).length : Int) from (show (j : Int) < ((rows.getD i []).length : Int) by omega)),
      if_neg (show ¬ (rdOf ByteArray.empty seen (n : Int)).toList = (rdOf ByteArray.empty (rd_L5 rows (i : Int)) (j : Int)).toList from show ¬ (seen.getD n ByteArray.empty).toList = ((rows.getD i []).getD j ByteArray.empty).toList by rw [← es, ByteArray.toList_eq, ByteArray.toList_eq]; exact hne), w64s n (by omega)]
theorem ref_numbers_row {rows : List (List ByteArray)} (hf : Few rows) {i : Nat} (hi : i < rows.length) (out : List (List Int)) (hout : out.length = i) (res : List (List Int)) :
    ∀ (d j : Nat) (seen : List ByteArray) (l : List Int), (rows.getD i []).length - j = d → j ≤ (rows.getD i []).length → seen.length ≤ i * 1000 + j → l.length = j →
      Ev (fun k => r05_Numbers.l0 k rows (seenBy ((rows.getD i []).drop j) seen) (out ++ [l ++ nums ((rows.getD i []).drop j) seen]) ((i + 1 : Nat) : Int)) res →
      Ev (fun k => r05_Numbers.l1 k rows seen out (i : Int) l (j : Int)) res := by
  obtain ⟨hr, hs⟩ := hf.2 _ (getD_memS hi [])
  have hn := hf.1
  intro d
  induction d with
  | zero =>
    intro j seen l hd hj hseen hl h
    have e0 : (rows.getD i []).drop j = [] := List.drop_eq_nil_of_le (by omega)
    rw [e0, seenBy, nums, List.append_nil] at h
    refine Ev.step (fun k => ?_) h
    simp only [r05_Numbers.l1]
    rw [if_pos (by omega), if_pos (by omega), if_neg (show ¬ (j : Int) < ((rd_L5 rows (i : Int)).length : Int) from (show ¬ (j : Int) < ((rows.getD i []).length : Int) by omega)), if_pos (by omega), w64s i (by omega)]
  | succ d ih =>
    intro j seen l hd hj hseen hl h
    have hj' : j < (rows.getD i []).length := by omega
    rw [drop_getS hj', seenBy, nums] at h
    have h2 := ih (j + 1) (grow seen ((rows.getD i []).getD j ByteArray.empty)) (l ++ [(lcs_Numbers.ix seen ((rows.getD i []).getD j ByteArray.empty) : Int)]) (by omega) (by omega) (Nat.le_trans (grow_length _ _) (by omega)) (by simp [hl]) (by rw [List.append_assoc]; exact h)
    refine Ev.step (f := fun k => r05_Numbers.l2 k rows seen out (i : Int) l (j : Int) ((0 : Nat) : Int)) (fun k => ?_) (ref_place hf hi out hj' seen hseen l hl res h2 _ 0 rfl (Nat.zero_le _))
    simp only [r05_Numbers.l1]
    rw [if_pos (by omega), if_pos (by omega), if_pos (show (j : Int) < ((rd_L5 rows (i : Int)).length : Int) from (show (j : Int) < ((rows.getD i []).length : Int) by omega))]; rfl
theorem ref_numbers_rows {rows : List (List ByteArray)} (hf : Few rows) : ∀ (d i : Nat) (seen : List ByteArray) (out : List (List Int)), rows.length - i = d → i ≤ rows.length → seen.length ≤ i * 1000 → out.length = i →
    Ev (fun k => r05_Numbers.l0 k rows seen out (i : Int)) (out ++ numsAll (rows.drop i) seen) := by
  have hn := hf.1
  intro d
  induction d with
  | zero =>
    intro i seen out hd hi hseen hout
    rw [List.drop_eq_nil_of_le (by omega), numsAll, List.append_nil]
    refine Ev.step (f := fun _ => some out) (fun k => ?_) (Ev.now _)
    simp only [r05_Numbers.l0]
    rw [if_neg (by omega)]
  | succ d ih =>
    intro i seen out hd hi hseen hout
    have hi' : i < rows.length := by omega
    have hr := (hf.2 _ (getD_memS hi' [])).1
    rw [drop_getL hi', numsAll]
    refine Ev.step (f := fun k => r05_Numbers.l1 k rows seen out (i : Int) [] ((0 : Nat) : Int)) (fun k => ?_) ?_
    · simp only [r05_Numbers.l0]
      rw [if_pos (by omega)]; rfl
    · refine ref_numbers_row hf hi' out hout _ _ 0 seen [] rfl (Nat.zero_le _) (by rw [Nat.add_zero]; exact hseen) rfl ?_
      rw [List.drop_zero, List.nil_append, show out ++ nums (rows.getD i []) seen :: numsAll (rows.drop (i + 1)) (seenBy (rows.getD i []) seen) = (out ++ [nums (rows.getD i []) seen]) ++ numsAll (rows.drop (i + 1)) (seenBy (rows.getD i []) seen) by rw [List.append_assoc]; rfl]
      exact ih (i + 1) _ _ (by omega) (by omega) (Nat.le_trans (seenBy_length _ _) (by omega)) (by simp [hout])
theorem ref_numbers_run {rows : List (List ByteArray)} (hf : Few rows) : Ev (fun k => r05_Numbers.f k rows) (numsAll rows []) := by
  have := ref_numbers_rows hf _ 0 [] [] rfl (Nat.zero_le _) (Nat.zero_le _) rfl
  unfold r05_Numbers.f
  simpa using this
/-! what hunks a match leaves -/
theorem wi (i : Nat) (h : i ≤ 1000000000) : wrap64 ((i : Int) + 1) = ((i + 1 : Nat) : Int) := by rw [w64 (by omega) (by omega)]; omega
def mt (n : Int) : List Int → Int → Bool
  | [], _ => decide (n ≥ 0)
  | x :: l, last => if x < -1 then false else if x ≥ n then false else if x ≥ 0 then (if x ≤ last then false else mt n l (mx last x)) else mt n l (mx last x)
theorem match_ev (m : List Int) (n : Int) (hm : m.length ≤ 1000000) : ∀ (d i : Nat) (last : Int), m.length - i = d → i ≤ m.length → Ev (fun k => hunk_match.l0 k n last m (m.length : Int) (i : Int)) (mt n (m.drop i) last) := by
  intro d
  induction d with
  | zero =>
    intro i last hd hi
    rw [List.drop_eq_nil_of_le (by omega), mt]
    exact Ev.step (f := fun _ => some (decide (n ≥ 0))) (fun k => by simp only [hunk_match.l0]; rw [if_neg (by omega)]) (Ev.now _)
  | succ d ih =>
    intro i last hd hi
    rw [drop_get (show i < m.length by omega), mt]
    have hx : rd m (i : Int) = m.getD i 0 := rfl
    by_cases h1 : m.getD i 0 < -1
    · rw [if_pos h1]
      exact Ev.step (f := fun _ => some false) (fun k => by simp only [hunk_match.l0]; rw [if_pos (by omega), if_pos (by omega), if_pos (by omega), hx, if_pos h1]) (Ev.now _)
    · rw [if_neg h1]
      by_cases h2 : m.getD i 0 ≥ n
      · rw [if_pos h2]
        exact Ev.step (f := fun _ => some false) (fun k => by simp only [hunk_match.l0]; rw [if_pos (by omega), if_pos (by omega), if_pos (by omega), hx, if_neg h1, if_pos h2]) (Ev.now _)
      · rw [if_neg h2]
        have hn := ih (i + 1) (mx last (m.getD i 0)) (by omega) (by omega)
        by_cases h3 : m.getD i 0 ≥ 0
        · rw [if_pos h3]
          by_cases h4 : m.getD i 0 ≤ last
          · rw [if_pos h4]
            exact Ev.step (f := fun _ => some false) (fun k => by simp only [hunk_match.l0]; rw [if_pos (by omega), if_pos (by omega), if_pos (by omega), hx, if_neg h1, if_neg h2, if_pos h3, if_pos h4]) (Ev.now _)
          · rw [if_neg h4]
            exact Ev.step (fun k => by simp only [hunk_match.l0]; rw [if_pos (by omega), if_pos (by omega), if_pos (by omega), hx, if_neg h1, if_neg h2, if_pos h3, if_neg h4, wi i (by omega)]) hn
        · rw [if_neg h3]
          exact Ev.step (fun k => by simp only [hunk_match.l0]; rw [if_pos (by omega), if_pos (by omega), if_pos (by omega), hx, if_neg h1, if_neg h2, if_neg h3, wi i (by omega)]) hn
theorem refmatch_ev (m : List Int) (n : Int) (hm : m.length ≤ 1000000) : ∀ (d i : Nat) (last : Int), m.length - i = d → i ≤ m.length → Ev (fun k => r06_match.l0 k m n last (i : Int)) (mt n (m.drop i) last) := by
  intro d
  induction d with
  | zero =>
    intro i last hd hi
    rw [List.drop_eq_nil_of_le (by omega), mt]
    exact Ev.step (f := fun _ => some (decide (n ≥ 0))) (fun k => by simp only [r06_match.l0]; rw [if_neg (by omega)]) (Ev.now _)
  | succ d ih =>
    intro i last hd hi
    rw [drop_get (show i < m.length by omega), mt]
    have hx : rd m (i : Int) = m.getD i 0 := rfl
    by_cases h1 : m.getD i 0 < -1
    · rw [if_pos h1]
      exact Ev.step (f := fun _ => some false) (fun k => by simp only [r06_match.l0]; rw [if_pos (by omega), if_pos (by omega), hx, if_pos h1]) (Ev.now _)
    · rw [if_neg h1]
      by_cases h2 : m.getD i 0 ≥ n
      · rw [if_pos h2]
        exact Ev.step (f := fun _ => some false) (fun k => by simp only [r06_match.l0]; rw [if_pos (by omega), if_pos (by omega), hx, if_neg h1, if_pos h2]) (Ev.now _)
      · rw [if_neg h2]
        have hn := ih (i + 1) (mx last (m.getD i 0)) (by omega) (by omega)
        by_cases h3 : m.getD i 0 ≥ 0
        · rw [if_pos h3]
          by_cases h4 : m.getD i 0 ≤ last
          · rw [if_pos h4]
            exact Ev.step (f := fun _ => some false) (fun k => by simp only [r06_match.l0]; rw [if_pos (by omega), if_pos (by omega), hx, if_neg h1, if_neg h2, if_pos h3, if_pos h4]) (Ev.now _)
          · rw [if_neg h4]
            exact Ev.step (fun k => by simp only [r06_match.l0]; rw [if_pos (by omega), if_pos (by omega), hx, if_neg h1, if_neg h2, if_pos h3, if_neg h4, wi i (by omega)]) hn
        · rw [if_neg h3]
          exact Ev.step (fun k => by simp only [r06_match.l0]; rw [if_pos (by omega), if_pos (by omega), hx, if_neg h1, if_neg h2, if_neg h3, wi i (by omega)]) hn
theorem match_mt (m : List Int) (n : Int) (hm : m.length ≤ 1000000) : Ev (fun k => hunk_match.f k m n) (mt n m (-1)) := match_ev m n hm _ 0 (-1) rfl (Nat.zero_le _)
theorem refmatch_mt (m : List Int) (n : Int) (hm : m.length ≤ 1000000) : Ev (fun k => r06_match.f k m n) (mt n m (-1)) := refmatch_ev m n hm _ 0 (-1) rfl (Nat.zero_le _)
/-- what is held rises from b on, below n -/
def Ris (n : Int) : List Int → Int → Prop
  | [], b => b ≤ n
  | x :: l, b => if x < 0 then Ris n l b else b ≤ x ∧ x < n ∧ Ris n l (x + 1)
theorem ris_of (n : Int) : ∀ (l : List Int) (last : Int), -1 ≤ last → last < n ∨ last = -1 → mt n l last = true → 0 ≤ n ∧ Ris n l (last + 1)
  | [], last, h0, h1, h => by
    rw [mt] at h
    have := of_decide_eq_true h
    exact ⟨this, by rw [Ris]; omega⟩
  | x :: l, last, h0, h1, h => by
    rw [mt] at h
    rw [Ris]
    by_cases a1 : x < -1
    · rw [if_pos a1] at h; cases h
    rw [if_neg a1] at h
    by_cases a2 : x ≥ n
    · rw [if_pos a2] at h; cases h
    rw [if_neg a2] at h
    by_cases a3 : x ≥ 0
    · rw [if_pos a3] at h
      by_cases a4 : x ≤ last
      · rw [if_pos a4] at h; cases h
      rw [if_neg a4] at h
      have e : mx last x = x := by unfold mx; split <;> omega
      rw [e] at h
      obtain ⟨g1, g2⟩ := ris_of n l x (by omega) (by omega) h
      rw [if_neg (by omega)]
      exact ⟨g1, by omega, by omega, g2⟩
    · rw [if_neg a3] at h
      have e : mx last x = last := by unfold mx; split <;> omega
      rw [e] at h
      obtain ⟨g1, g2⟩ := ris_of n l last h0 h1 h
      rw [if_pos (by omega)]
      exact ⟨g1, g2⟩
def hk (n : Int) : List Int → Int → Int → Int → List S40
  | [], i, a, b => if i > a ∨ n > b then [⟨a, i - a, b, n - b⟩] else []
  | x :: l, i, a, b => if x < 0 then hk n l (i + 1) a b else (if i > a ∨ x > b then [⟨a, i - a, b, x - b⟩] else []) ++ hk n l (i + 1) (i + 1) (x + 1)
theorem go_hk (n : Int) (hn : n ≤ 1000000000) : ∀ (l : List Int) (i : Nat) (u : List S40) (a b : Int), Ris n l b → ∃ s, hunk_Of.go l i (u, a, b) = some s ∧ (hunk_Of.up ((i + l.length : Nat) : Int) n s).1 = u ++ hk n l i a b
  | [], i, u, a, b, _ => by
    refine ⟨_, rfl, ?_⟩
    unfold hunk_Of.up hk
    dsimp only
    simp only [List.length_nil, Nat.add_zero]
    split <;> simp
  | x :: l, i, u, a, b, h => by
    rw [Ris] at h
    rw [hunk_Of.go, hk]
    have e : ((i + (x :: l).length : Nat) : Int) = ((i + 1 + l.length : Nat) : Int) := by simp only [List.length_cons]; omega
    rw [e]
    by_cases h0 : x < 0
    · rw [if_pos h0] at h
      obtain ⟨s, h1, h2⟩ := go_hk n hn l (i + 1) u a b h
      refine ⟨s, by rw [if_neg (by omega)]; exact h1, ?_⟩
      rw [h2, if_pos h0]; simp
    · rw [if_neg h0] at h
      obtain ⟨g1, g2, g3⟩ := h
      obtain ⟨s, h1, h2⟩ := go_hk n hn l (i + 1) (hunk_Of.up i x (u, a, b)).1 ((i : Int) + 1) (x + 1) g3
      refine ⟨s, by rw [if_pos (by omega), if_pos (by omega)]; exact h1, ?_⟩
      rw [h2, if_neg h0]
      unfold hunk_Of.up
      dsimp only
      split <;> simp
def O (m : List Int) (n : Int) : List S40 := if mt n m (-1) = true then hk n m 0 0 0 else []
theorem of_runs (m : List Int) (n : Int) (hm : m.length ≤ 1000000) (hn : n ≤ 1000000000) : Ev (fun k => hunk_Of.f k m n) (O m n) := by
  refine Ev.congr (fun k => if_pos ⟨hm, by omega⟩) (Ev.bind (match_mt m n hm) ?_)
  unfold O
  by_cases h : mt n m (-1) = true
  · obtain ⟨h0, h1⟩ := ris_of n m (-1) (by omega) (.inr rfl) h
    obtain ⟨s, g1, g2⟩ := go_hk n hn m 0 [] 0 0 h1
    refine Ev.congr (f := fun _ => some (hk n m 0 0 0)) (fun k => ?_) (by rw [if_pos h]; exact Ev.now _)
    rw [if_pos h, if_pos h0, g1, Option.bind_some]
    rw [Nat.zero_add, List.nil_append] at g2
    rw [g2]; rfl
  · exact Ev.congr (f := fun _ => some []) (fun k => if_neg h) (by rw [if_neg h]; exact Ev.now _)
theorem hk_length (n : Int) : ∀ (l : List Int) (i a b : Int), (hk n l i a b).length ≤ l.length + 1
  | [], i, a, b => by rw [hk]; split <;> simp
  | x :: l, i, a, b => by
    rw [hk]
    split
    · have := hk_length n l (i + 1) a b; simp only [List.length_cons]; omega
    · have := hk_length n l (i + 1) (i + 1) (x + 1)
      rw [List.length_append, List.length_cons]
      split <;> simp <;> omega
theorem O_length (m : List Int) (n : Int) : (O m n).length ≤ m.length + 1 := by
  unfold O
  split
  · exact hk_length n m 0 0 0
  · simp
theorem wsub {x y : Int} (h0 : 0 ≤ x) (h1 : x ≤ 1000000000) (h2 : 0 ≤ y) (h3 : y ≤ 1000000000) : wrap64 (x - y) = x - y := w64 (by omega) (by omega)
theorem ref_end (m : List Int) (n : Int) (out : List S40) : Ev (fun k => r06_Of.l0 k m n out (m.length : Int) n) out :=
  Ev.step (f := fun k => r06_Of.j1 k m n out (m.length : Int) n false) (fun k => by simp only [r06_Of.l0]; rw [if_neg (by omega), decide_eq_false (by omega)]) (Ev.step (f := fun _ => some out) (fun k => by simp only [r06_Of.j1]; rw [if_neg (by decide)]) (Ev.now _))
theorem ref_held (m : List Int) (n : Int) (hm : m.length ≤ 1000000) (out : List S40) (a : Nat) (b : Int) (ha : a < m.length) (h0 : 0 ≤ b) (h1 : b ≤ 1000000000) (he : m.getD a 0 = b) (r : List S40) (h : Ev (fun k => r06_Of.l0 k m n out ((a + 1 : Nat) : Int) (b + 1)) r) : Ev (fun k => r06_Of.l0 k m n out (a : Int) b) r := by
  refine Ev.step (f := fun k => r06_Of.j1 k m n out (a : Int) b true) (fun k => by simp only [r06_Of.l0]; rw [if_pos (by omega)]) (Ev.step (f := fun k => r06_Of.j2 k m n out (a : Int) b true) (fun k => ?_) (Ev.step (fun k => ?_) h))
  · simp only [r06_Of.j1]
    rw [if_pos trivial, if_pos (by omega), if_pos (by omega)]
    have : (rd m (a : Int) == b) = true := by rw [show rd m (a : Int) = m.getD a 0 from rfl, he]; simp
    rw [this]
  · simp only [r06_Of.j2]
    rw [if_pos trivial, wi a (by omega), w64 (by omega) (by omega)]
theorem ref_skip (m : List Int) (n : Int) (hm : m.length ≤ 1000000) (h0n : 0 ≤ n) (hn : n ≤ 1000000000) (c : Nat)
    (P : ∀ (a : Nat) (b : Int) (out : List S40), m.length - a < c → a ≤ m.length → 0 ≤ b → Ris n (m.drop a) b → out.length ≤ a + 1 → Ev (fun k => r06_Of.l0 k m n out (a : Int) b) (out ++ hk n (m.drop a) a a b))
    (a : Nat) (b : Int) (ha : m.length - a ≤ c) (ha2 : a ≤ m.length) (b0 : 0 ≤ b) (out : List S40) (hout : out.length ≤ a + 1) : ∀ (d i : Nat), m.length - i = d → i ≤ m.length → a < i → Ris n (m.drop i) b → Ev (fun k => r06_Of.l1 k m n out (i : Int) (a : Int) 0 b 0) (out ++ hk n (m.drop i) i a b) := by
  intro d
  induction d with
  | zero =>
    intro i hd hi hai hr
    obtain rfl : i = m.length := by omega
    rw [List.drop_eq_nil_of_le (Nat.le_refl _)] at hr ⊢
    rw [Ris] at hr
    rw [hk, if_pos (.inl (by omega))]
    refine Ev.step (fun k => ?_) (ref_end m n (out ++ [⟨(a : Int), (m.length : Int) - a, b, n - b⟩]))
    simp only [r06_Of.l1]
    rw [if_neg (by omega), if_pos (by omega), wsub (by omega) (by omega) (by omega) (by omega), wsub h0n hn b0 (by omega)]
  | succ d ih =>
    intro i hd hi hai hr
    have hlt : i < m.length := by omega
    rw [drop_get hlt] at hr ⊢
    rw [Ris] at hr
    rw [hk]
    have hx : rd m (i : Int) = m.getD i 0 := rfl
    by_cases h0 : m.getD i 0 < 0
    · rw [if_pos h0] at hr ⊢
      refine Ev.step (fun k => ?_) (by have := ih (i + 1) (by omega) (by omega) (by omega) hr; exact this)
      simp only [r06_Of.l1]
      rw [if_pos (by omega), if_pos (by omega), hx, if_pos h0, wi i (by omega)]
    · rw [if_neg h0] at hr ⊢
      obtain ⟨g1, g2, g3⟩ := hr
      rw [if_pos (.inl (by omega))]
      have hP := P i (m.getD i 0) (out ++ [⟨(a : Int), (i : Int) - a, b, m.getD i 0 - b⟩]) (by omega) (by omega) (by omega) (by rw [drop_get hlt, Ris, if_neg h0]; exact ⟨Int.le_refl _, g2, g3⟩) (by simp only [List.length_append, List.length_cons, List.length_nil]; omega)
      rw [drop_get hlt, hk, if_neg h0, if_neg (by omega), List.nil_append, List.append_assoc] at hP
      refine Ev.step (fun k => ?_) hP
      simp only [r06_Of.l1]
      rw [if_pos (by omega), if_pos (by omega), hx, if_neg h0, if_pos (by omega), wsub (by omega) (by omega) (by omega) (by omega), wsub (by omega) (by omega) b0 (by omega)]
/-- the document's loop -/
theorem ref_of (m : List Int) (n : Int) (hm : m.length ≤ 1000000) (h0n : 0 ≤ n) (hn : n ≤ 1000000000) : ∀ (c : Nat) (a : Nat) (b : Int) (out : List S40), m.length - a < c → a ≤ m.length → 0 ≤ b → Ris n (m.drop a) b → out.length ≤ a + 1 → Ev (fun k => r06_Of.l0 k m n out (a : Int) b) (out ++ hk n (m.drop a) a a b) := by
  intro c
  induction c with
  | zero => intro a b out h; omega
  | succ c ih =>
    intro a b out hc ha b0 hr hout
    by_cases hlt : a < m.length
    · rw [drop_get hlt] at hr ⊢
      rw [Ris] at hr
      rw [hk]
      have hx : rd m (a : Int) = m.getD a 0 := rfl
      have go1 : ∀ r, Ev (fun k => r06_Of.l1 k m n out (a : Int) (a : Int) 0 b 0) r → m.getD a 0 ≠ b → Ev (fun k => r06_Of.l0 k m n out (a : Int) b) r := by
        intro r h hne
        refine Ev.step (f := fun k => r06_Of.j1 k m n out (a : Int) b true) (fun k => by simp only [r06_Of.l0]; rw [if_pos (by omega)]) (Ev.step (f := fun k => r06_Of.j2 k m n out (a : Int) b false) (fun k => ?_) (Ev.step (fun k => ?_) h))
        · simp only [r06_Of.j1]
          rw [if_pos trivial, if_pos (by omega), if_pos (by omega)]
          have : (rd m (a : Int) == b) = false := by rw [hx]; simpa using hne
          rw [this]
        · simp only [r06_Of.j2]
          rw [if_neg (by decide)]
      by_cases h0 : m.getD a 0 < 0
      · rw [if_pos h0] at hr ⊢
        refine go1 _ ?_ (by omega)
        have := ref_skip m n hm h0n hn c ih a b (by omega) ha b0 out hout (m.length - (a + 1)) (a + 1) rfl (by omega) (by omega) hr
        refine Ev.step (fun k => ?_) this
        simp only [r06_Of.l1]
        rw [if_pos (by omega), if_pos (by omega), hx, if_pos h0, wi a (by omega)]
      · rw [if_neg h0] at hr ⊢
        obtain ⟨g1, g2, g3⟩ := hr
        by_cases he : m.getD a 0 = b
        · rw [if_neg (by omega), List.nil_append]
          have hP := ih (a + 1) (b + 1) out (by omega) (by omega) (by omega) (by rw [← he]; exact g3) (by omega)
          have e : ((a + 1 : Nat) : Int) = (a : Int) + 1 := by omega
          rw [he]
          refine ref_held m n hm out a b hlt b0 (by omega) he _ ?_
          rw [e] at hP ⊢
          exact hP
        · rw [if_pos (.inr (by omega))]
          refine go1 _ ?_ he
          have hP := ih (a + 1) (m.getD a 0 + 1) (out ++ [⟨(a : Int), (a : Int) - a, b, m.getD a 0 - b⟩]) (by omega) (by omega) (by omega) g3 (by simp only [List.length_append, List.length_cons, List.length_nil]; omega)
          have e : ((a + 1 : Nat) : Int) = (a : Int) + 1 := by omega
          have hH := ref_held m n hm (out ++ [⟨(a : Int), (a : Int) - a, b, m.getD a 0 - b⟩]) a (m.getD a 0) hlt (by omega) (by omega) rfl _ hP
          rw [e, List.append_assoc] at hH
          refine Ev.step (fun k => ?_) hH
          simp only [r06_Of.l1]
          rw [if_pos (by omega), if_pos (by omega), hx, if_neg h0, if_pos (by omega), wsub (by omega) (by omega) (by omega) (by omega), wsub (by omega) (by omega) b0 (by omega)]
    · obtain rfl : a = m.length := by omega
      rw [List.drop_eq_nil_of_le (Nat.le_refl _)] at hr ⊢
      rw [Ris] at hr
      rw [hk]
      by_cases hb : b < n
      · rw [if_pos (.inr (by omega))]
        refine Ev.step (f := fun k => r06_Of.j1 k m n out (m.length : Int) b true) (fun k => by simp only [r06_Of.l0]; rw [if_neg (by omega), decide_eq_true hb]) (Ev.step (f := fun k => r06_Of.j2 k m n out (m.length : Int) b false) (fun k => ?_) (Ev.step (f := fun k => r06_Of.l1 k m n out (m.length : Int) (m.length : Int) 0 b 0) (fun k => ?_) (Ev.step (fun k => ?_) (ref_end m n (out ++ [⟨(m.length : Int), (m.length : Int) - m.length, b, n - b⟩])))))
        · simp only [r06_Of.j1]
          rw [if_pos trivial, if_neg (by omega)]
        · simp only [r06_Of.j2]
          rw [if_neg (by decide)]
        · simp only [r06_Of.l1]
          rw [if_neg (by omega), if_pos (by omega), wsub (by omega) (by omega) (by omega) (by omega), wsub h0n hn b0 (by omega)]
      · obtain rfl : b = n := by omega
        rw [if_neg (by omega), List.append_nil]
        exact ref_end m b out
theorem refof_runs (m : List Int) (n : Int) (hm : m.length ≤ 1000000) (hn : n ≤ 1000000000) : Ev (fun k => r06_Of.f k m n) (O m n) := by
  unfold r06_Of.f
  refine Ev.bind (refmatch_mt m n hm) ?_
  unfold O
  by_cases h : mt n m (-1) = true
  · obtain ⟨h0, h1⟩ := ris_of n m (-1) (by omega) (.inr rfl) h
    refine Ev.congr (fun k => if_pos h) ?_
    rw [if_pos h]
    have := ref_of m n hm h0 hn (m.length + 1) 0 0 [] (by omega) (Nat.zero_le _) (Int.le_refl _) h1 (by simp)
    rw [List.nil_append] at this
    exact this
  · exact Ev.congr (f := fun _ => some []) (fun k => if_neg h) (by rw [if_neg h]; exact Ev.now _)
theorem at40 {L : List S40} {i : Nat} {y : S40} {r : List S40} (h : L.drop i = y :: r) : i < L.length ∧ rd_T40 L (i : Int) = y ∧ L.drop (i + 1) = r := by
  have h1 : i < L.length := by
    rcases Nat.lt_or_ge i L.length with g | g
    · exact g
    · rw [List.drop_eq_nil_of_le g] at h; cases h
  rw [List.drop_eq_getElem_cons h1] at h
  injection h with e1 e2
  refine ⟨h1, ?_, e2⟩
  show L.getD i z40 = y
  rw [List.getD_eq_getElem?_getD, List.getElem?_eq_getElem h1]; exact e1
theorem same6_loop (L : List S40) (hL : L.length ≤ 1000000) : ∀ (l : List S40) (i : Nat), L.drop i = l → i ≤ L.length → Ev (fun k => r06_Same.l0 k L L (i : Int)) true
  | [], i, h, hi => by
    have : L.length ≤ i := by have := congrArg List.length h; rw [List.length_drop, List.length_nil] at this; omega
    exact Ev.step (f := fun _ => some true) (fun k => by simp only [r06_Same.l0]; rw [if_neg (by omega)]) (Ev.now _)
  | y :: r, i, h, hi => by
    obtain ⟨h1, h2, h3⟩ := at40 h
    exact Ev.step (fun k => by simp only [r06_Same.l0]; rw [if_pos (by omega), if_pos (by omega), if_pos (by omega), if_neg (by simp), wi i (by omega)]) (same6_loop L hL r (i + 1) h3 (by omega))
theorem same6_runs (L : List S40) (hL : L.length ≤ 1000000) : Ev (fun k => r06_Same.f k L L) true :=
  Ev.congr (fun k => if_pos rfl) (same6_loop L hL L 0 rfl (Nat.zero_le _))
theorem awake_runs : Ev (fun k => l06_awake.f k) true := Ev.of (l06_awake.mono) (k := 60) (by decide +kernel)
def na (a : List ByteArray) : List Int := nums a []
def nb (a b : List ByteArray) : List Int := nums b (seenBy a [])
theorem na_length (a : List ByteArray) : (na a).length = a.length := nums_length _ _
theorem nb_length (a b : List ByteArray) : (nb a b).length = b.length := nums_length _ _
theorem few2 {a b : List ByteArray} (ha : a.length ≤ 1000) (hb : b.length ≤ 1000) (sa : ∀ x ∈ a, x.size ≤ 140737488351232) (sb : ∀ x ∈ b, x.size ≤ 140737488351232) : Few [a, b] := ⟨by simp, fun r hr => by
  rcases List.mem_cons.1 hr with rfl | hr
  · exact ⟨ha, fun s hm => Nat.le_trans (sa s hm) (by decide)⟩
  rcases List.mem_cons.1 hr with rfl | hr
  · exact ⟨hb, fun s hm => Nat.le_trans (sb s hm) (by decide)⟩
  · cases hr⟩
theorem ltexts_runs {a b : List ByteArray} (ha : a.length ≤ 1000) (hb : b.length ≤ 1000) (hf : Few [a, b]) : Ev (fun k => lcs_Texts.f k a b) (held (na a) (nb a b) 0) := by
  unfold lcs_Texts.f
  refine Ev.bind (numbers_run hf) ?_
  rw [show numsAll [a, b] [] = [na a, nb a b] from rfl]
  exact Ev.congr (f := fun k => (lcs_Match.f k (na a) (nb a b)).bind fun t => some t) (fun k => by rw [if_pos (by simp), if_pos (by simp)]; rfl) (Ev.bind (match_runs _ _ (by rw [na_length]; omega) (by rw [nb_length]; omega)) (Ev.now _))
theorem reftexts_runs {a b : List ByteArray} (ha : a.length ≤ 1000) (hb : b.length ≤ 1000) (hf : Few [a, b]) : Ev (fun k => r05_Texts.f k a b) (held (na a) (nb a b) 0) := by
  unfold r05_Texts.f
  refine Ev.bind (ref_numbers_run hf) ?_
  rw [show numsAll [a, b] [] = [na a, nb a b] from rfl]
  exact Ev.congr (f := fun k => (r05_Match.f k (na a) (nb a b)).bind fun t => some t) (fun k => by rw [if_pos (by simp), if_pos (by simp)]; rfl) (Ev.bind (ref_runs _ _ (by rw [na_length]; omega) (by rw [nb_length]; omega)) (Ev.now _))
def Hs (a b : List ByteArray) : List S40 := O (held (na a) (nb a b) 0) b.length
theorem Hs_length (a b : List ByteArray) : (Hs a b).length ≤ a.length + 1 := by
  unfold Hs
  refine Nat.le_trans (O_length _ _) ?_
  rw [held_length, na_length]; exact Nat.le_refl _
theorem htexts_runs {a b : List ByteArray} (ha : a.length ≤ 1000) (hb : b.length ≤ 1000) (hf : Few [a, b]) : Ev (fun k => hunk_Texts.f k a b) (Hs a b) := by
  unfold hunk_Texts.f
  exact Ev.bind (ltexts_runs ha hb hf) (Ev.bind (of_runs _ _ (by rw [held_length, na_length]; omega) (by omega)) (Ev.now _))
theorem rhtexts_runs {a b : List ByteArray} (ha : a.length ≤ 1000) (hb : b.length ≤ 1000) (hf : Few [a, b]) : Ev (fun k => r06_Texts.f k a b) (Hs a b) := by
  unfold r06_Texts.f
  exact Ev.bind (reftexts_runs ha hb hf) (Ev.bind (refof_runs _ _ (by rw [held_length, na_length]; omega) (by omega)) (Ev.now _))
theorem HunkTells (m : List Int) (n : Int) (t : List (List ByteArray)) (h0 : m.length * 8 ≤ 140737488351232 ∧ m.length ≤ maxLen ∧ ∀ x ∈ m, (Lit.int .i64 x).wf = true) (h1 : (Lit.int .i64 n).wf = true)
    (h2 : t.length * 24 ≤ 140737488351232 ∧ t.length ≤ maxLen ∧ ∀ r ∈ t, r.length * 16 ≤ 140737488351232 ∧ r.length ≤ maxLen ∧ ∀ x ∈ r, x.size ≤ 140737488351232) : ∃ k, l06_HunkTells.f k m n t = some true := by
  refine Ev.rounds ?_
  unfold l06_HunkTells.f
  refine Ev.bind awake_runs (Ev.congr (fun k => if_pos rfl) ?_)
  have yes : Ev (fun k => l06_HunkTells.j0 k m n t true) true := Ev.step (f := fun _ => some true) (fun k => by simp only [l06_HunkTells.j0]; rw [if_pos trivial]) (Ev.now _)
  by_cases g0 : (m.length : Int) > 200
  · exact Ev.congr (fun k => if_pos g0) yes
  refine Ev.congr (fun k => if_neg g0) ?_
  by_cases g1 : n > 1000000
  · exact Ev.congr (fun k => if_pos g1) yes
  refine Ev.congr (fun k => if_neg g1) ?_
  by_cases g2 : (t.length : Int) < 2
  · exact Ev.congr (fun k => if_pos g2) yes
  refine Ev.congr (fun k => if_neg g2) (Ev.congr (fun k => if_pos (by omega)) ?_)
  obtain ⟨x, y, t, rfl⟩ : ∃ x y t', t = x :: y :: t' := by
    match t, g2 with
    | [], g => exact absurd (by simp) g
    | [x], g => exact absurd (by simp) g
    | x :: y :: t', _ => exact ⟨x, y, t', rfl⟩
  have e0 : rd_L5 (x :: y :: t) 0 = x := rfl
  have e1 : rd_L5 (x :: y :: t) 1 = y := rfl
  rw [e0, e1]
  by_cases g3 : (x.length : Int) > 100
  · exact Ev.congr (fun k => if_pos g3) yes
  refine Ev.congr (fun k => if_neg g3) (Ev.congr (fun k => if_pos (by simp; omega)) ?_)
  by_cases g4 : (y.length : Int) > 100
  · rw [decide_eq_true g4]; exact yes
  rw [decide_eq_false g4]
  have hx := (h2.2.2 x (by simp)).2.2
  have hy := (h2.2.2 y (by simp)).2.2
  have hf : Few [x, y] := few2 (by omega) (by omega) hx hy
  have hm : m.length ≤ 1000000 := by omega
  have hn : n ≤ 1000000000 := by omega
  have l1 := O_length m n
  have l2 := Hs_length x y
  refine Ev.step (f := fun k => (hunk_Of.f k m n).bind fun t323 => (r06_Of.f k m n).bind fun t326 => (r06_Same.f k t323 t326).bind fun t329 => if t329 = true then ((hunk_Texts.f k x y).bind fun t332 => (r06_Texts.f k x y).bind fun t337 => (r06_Same.f k t332 t337).bind fun t340 => some t340) else none) (fun k => ?_) (Ev.bind (of_runs m n hm hn) (Ev.bind (refof_runs m n hm hn) (Ev.bind (same6_runs _ (by omega)) (Ev.congr (fun k => if_pos rfl) (Ev.bind (htexts_runs (by omega) (by omega) hf) (Ev.bind (rhtexts_runs (by omega) (by omega) hf) (Ev.bind (same6_runs _ (by omega)) (Ev.now _))))))))
  have hl0 : (0 : Int) < ((x :: y :: t).length : Int) := by simp only [List.length_cons]; omega
  have hl1 : (1 : Int) < ((x :: y :: t).length : Int) := by simp only [List.length_cons]; omega
  simp only [l06_HunkTells.j0, if_pos hl0, if_pos hl1, e0, e1]
  rw [if_neg (by decide)]
end Go.Proofs.Ytphghffdaceaoaa.Pure
