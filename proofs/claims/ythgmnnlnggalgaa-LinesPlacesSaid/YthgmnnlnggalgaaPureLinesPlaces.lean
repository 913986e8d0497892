/- The law LinesPlaces answers true for every string and every two ints. -/
import Derived.Test.YthgmnnlnggalgaaPLinesx3
namespace Go.Proofs.Ythgmnnlnggalgaa.Pure
open Go.RowKit Go.Proofs.Ythgmnnlnggalgaa.PLines Go.Proofs.YthgmnnlnggalgaaW.PrintWords Go.Proofs.YthgmnnlnggalgaaW.PrintLast Go.Proofs.YthgmnnlnggalgaaW.PrintMore
set_option linter.unusedVariables false
set_option linter.unusedSimpArgs false
theorem w64 {x : Int} (h0 : -9223372036854775808 ≤ x) (h1 : x ≤ 9223372036854775807) : wrap64 x = x := by unfold wrap64; omega
theorem w64s (i : Nat) (h : i ≤ 1000000000) : wrap64 ((i : Int) + 1) = ((i + 1 : Nat) : Int) := by rw [w64 (by omega) (by omega)]; omega
/-! ### the lines of a row of bytes -/
def lns : List UInt8 → List (List UInt8)
  | [] => []
  | b :: l => if b = 10 then [10] :: lns l else match lns l with | [] => [[b]] | x :: xs => (b :: x) :: xs
theorem lns_nil : lns [] = [] := rfl
theorem lns_end (l : List UInt8) : lns (10 :: l) = [10] :: lns l := by rw [lns, if_pos rfl]
theorem lns_cons {b : UInt8} (h : b ≠ 10) (l : List UInt8) : lns (b :: l) = match lns l with | [] => [[b]] | x :: xs => (b :: x) :: xs := by rw [lns, if_neg h]
theorem lns_line : ∀ (u v : List UInt8), 10 ∉ u → lns (u ++ 10 :: v) = (u ++ [10]) :: lns v
  | [], v, _ => by rw [List.nil_append, lns_end]; rfl
  | b :: u, v, h => by
    have hb : b ≠ 10 := fun e => h (by rw [e]; exact List.mem_cons_self)
    have hu : 10 ∉ u := fun e => h (List.mem_cons_of_mem _ e)
    rw [List.cons_append, lns_cons hb, lns_line u v hu]; rfl
theorem lns_last : ∀ (u : List UInt8), 10 ∉ u → u ≠ [] → lns u = [u]
  | [], _, h => absurd rfl h
  | [b], h, _ => by
    have hb : b ≠ 10 := fun e => h (by rw [e]; exact List.mem_cons_self)
    rw [lns_cons hb, lns_nil]
  | b :: c :: u, h, _ => by
    have hb : b ≠ 10 := fun e => h (by rw [e]; exact List.mem_cons_self)
    have hu : 10 ∉ c :: u := fun e => h (List.mem_cons_of_mem _ e)
    rw [lns_cons hb, lns_last (c :: u) hu (by simp)]
theorem lns_flat : ∀ l : List UInt8, (lns l).flatten = l
  | [] => rfl
  | b :: l => by
    have ih := lns_flat l
    by_cases h : b = 10
    · subst h; rw [lns_end, List.flatten_cons, ih]; rfl
    · rw [lns_cons h]
      split <;> rename_i e <;> rw [e] at ih
      · simp at ih; subst ih; rfl
      · rw [List.flatten_cons, List.cons_append, ← List.flatten_cons, ih]
theorem lns_ne : ∀ l : List UInt8, ∀ x ∈ lns l, x ≠ []
  | [], x, h => by cases h
  | b :: l, x, h => by
    have ih := lns_ne l
    by_cases hb : b = 10
    · subst hb; rw [lns_end] at h
      rcases List.mem_cons.1 h with rfl | h
      · simp
      · exact ih x h
    · rw [lns_cons hb] at h
      split at h <;> rename_i e <;> rw [e] at ih
      · rcases List.mem_cons.1 h with rfl | h
        · simp
        · cases h
      · rcases List.mem_cons.1 h with rfl | h
        · simp
        · exact ih x (List.mem_cons_of_mem _ h)
/-- a text that is empty, or whose last line has an end -/
def Ended (l : List UInt8) : Prop := l = [] ∨ l.getLast? = some 10
instance (l : List UInt8) : Decidable (Ended l) := inferInstanceAs (Decidable (_ ∨ _))
theorem lns_append : ∀ (a b : List UInt8), Ended a → lns (a ++ b) = lns a ++ lns b
  | [], b, _ => by rw [List.nil_append, lns_nil, List.nil_append]
  | [x], b, h => by
    have hx : x = 10 := by rcases h with h | h <;> simp at h; exact h
    subst hx; rw [List.cons_append, lns_end, List.nil_append, lns_end, lns_nil]; rfl
  | x :: y :: a, b, h => by
    have h' : Ended (y :: a) := .inr (by rcases h with h | h <;> simp at h ⊢; exact h)
    have ih := lns_append (y :: a) b h'
    by_cases hx : x = 10
    · subst hx; rw [List.cons_append, lns_end, ih, lns_end]; rfl
    · rw [List.cons_append, lns_cons hx, lns_cons hx, ih]
      cases e : lns (y :: a) with
      | nil => have := lns_flat (y :: a); rw [e] at this; cases this
      | cons z zs => rfl
theorem lns_count : ∀ l : List UInt8, (lns l).length = l.count 10 + (if Ended l then 0 else 1)
  | [] => by simp [lns, Ended]
  | [x] => by
    by_cases hx : x = 10
    · subst hx; simp [lns, Ended]
    · rw [lns_cons hx, lns_nil]; simp [Ended, hx]
  | x :: y :: l => by
    have ih := lns_count (y :: l)
    have he : Ended (x :: y :: l) ↔ Ended (y :: l) := by simp [Ended]
    by_cases hx : x = 10
    · subst hx; rw [lns_end, List.length_cons, ih, List.count_cons_self]
      simp only [he]; omega
    · rw [lns_cons hx]
      have hc : (x :: y :: l).count 10 = (y :: l).count 10 := by rw [List.count_cons_of_ne hx]
      rw [hc]; simp only [he]
      cases e : lns (y :: l) with
      | nil => have := lns_flat (y :: l); rw [e] at this; cases this
      | cons z zs => rw [e] at ih; simpa using ih
/-- a line has no end but at its end; each but the last one has one -/
theorem lns_form : ∀ (l : List UInt8) (i : Nat) (x : List UInt8), (lns l)[i]? = some x → (10 ∉ x.dropLast) ∧ (i + 1 < (lns l).length → x.getLast? = some 10)
  | [], i, x, h => by simp [lns] at h
  | b :: l, i, x, h => by
    have ih := lns_form l
    by_cases hb : b = 10
    · subst hb
      rw [lns_end] at h ⊢
      cases i with
      | zero => simp at h; subst h; simp
      | succ i => simp at h; obtain ⟨h1, h2⟩ := ih i x h; exact ⟨h1, fun hl => h2 (by simpa using hl)⟩
    · rw [lns_cons hb] at h ⊢
      cases e : lns l with
      | nil =>
        rw [e] at h
        cases i with
        | zero => simp at h; subst h; simp
        | succ i => simp at h
      | cons z zs =>
        rw [e] at h ih
        have hz : z ≠ [] := lns_ne l z (by rw [e]; exact List.mem_cons_self)
        cases i with
        | zero =>
          simp at h; subst h
          obtain ⟨h1, h2⟩ := ih 0 z rfl
          refine ⟨?_, fun hl => ?_⟩
          · rw [List.dropLast_cons_of_ne_nil hz, List.mem_cons]; exact fun h => h.elim (fun e => hb e.symm) h1
          · rw [List.getLast?_cons, h2 (by simpa using hl)]; rfl
        | succ i => simp at h; obtain ⟨h1, h2⟩ := ih (i + 1) x (by simpa using h); exact ⟨h1, fun hl => h2 (by simpa using hl)⟩
theorem L_extract (s : ByteArray) (p q : Nat) : (s.extract p q).data.toList = (s.data.toList.drop p).take (q - p) := by
  rw [ByteArray.data_extract, Array.toList_extract, List.extract_eq_take_drop]
theorem L_append (a b : ByteArray) : (a ++ b).data.toList = a.data.toList ++ b.data.toList := by simp
theorem L_size (s : ByteArray) : s.data.toList.length = s.size := rfl
theorem index_cases : ∀ l : List UInt8, (Lib.indexByte l 10 = -1 ∧ 10 ∉ l) ∨ (∃ u v, l = u ++ 10 :: v ∧ 10 ∉ u ∧ Lib.indexByte l 10 = (u.length : Int))
  | [] => .inl ⟨rfl, by simp⟩
  | b :: l => by
    by_cases hb : b = 10
    · subst hb
      exact .inr ⟨[], l, rfl, by simp, by simp [Lib.indexByte]⟩
    · have hb' : (b == 10) = false := by simpa using hb
      rcases index_cases l with ⟨h1, h2⟩ | ⟨u, v, h1, h2, h3⟩
      · refine .inl ⟨by simp [Lib.indexByte, hb', h1], fun h => ?_⟩
        rcases List.mem_cons.1 h with e | e
        · exact hb e.symm
        · exact h2 e
      · refine .inr ⟨b :: u, v, by rw [h1]; rfl, fun h => ?_, ?_⟩
        · rcases List.mem_cons.1 h with e | e
          · exact hb e.symm
          · exact h2 e
        · have hne : ¬ ((u.length : Int) = -1) := by omega
          simp [Lib.indexByte, hb', h3, hne]
theorem items_lns (s : ByteArray) : ∀ k p, s.size - p ≤ k → p ≤ s.size → (lines_all.items s k p).map (fun x => x.2.data.toList) = lns (s.data.toList.drop p)
  | 0, p, hk, hp => by
    rw [List.drop_eq_nil_of_le (by rw [L_size]; omega)]; rfl
  | k + 1, p, hk, hp => by
    rw [lines_all.items]
    split
    · rename_i hlt
      have hs := lines_all.step_pos hlt
      rw [List.map_cons, items_lns s k _ (by omega) hs.2, ← List.drop_drop, L_extract, show p + lines_all.step s p - p = lines_all.step s p by omega]
      have hl : (s.data.toList.drop p).length = s.size - p := by rw [List.length_drop, L_size]
      obtain ⟨n, hn⟩ : ∃ n, lines_all.step s p = n := ⟨_, rfl⟩
      have hn' := hn
      unfold lines_all.step at hn
      rw [hn']
      obtain ⟨D, hD⟩ : ∃ D, s.data.toList.drop p = D := ⟨_, rfl⟩
      rw [hD] at hl hn ⊢
      rcases index_cases D with ⟨h1, h2⟩ | ⟨u, v, h1, h2, h3⟩
      · rw [h1, if_pos (by omega)] at hn
        have hn2 : D.length ≤ n := by omega
        rw [List.take_of_length_le hn2, List.drop_eq_nil_of_le hn2, lns_nil, lns_last _ h2 (by intro e; rw [e] at hl; simp at hl; omega)]
      · rw [h3, if_neg (by omega)] at hn
        have hn2 : n = u.length + 1 := by omega
        subst hn2; subst h1
        rw [lns_line u v h2]
        have e1 : (u ++ 10 :: v).drop (u.length + 1) = v := by
          rw [← List.drop_drop, List.drop_left]; rfl
        have e2 : (u ++ 10 :: v).take (u.length + 1) = u ++ [10] := by
          rw [List.take_append, List.take_of_length_le (by omega)]; simp
        rw [e1, e2]
    · rw [List.drop_eq_nil_of_le (by rw [L_size]; omega)]; rfl
theorem split_is (s : ByteArray) (hs : s.size ≤ 1000000) : ∃ r, lines_Split.f s = some r ∧ r.map (·.data.toList) = lns s.data.toList := by
  refine ⟨_, by unfold lines_Split.f; rw [if_pos hs], ?_⟩
  rw [List.map_map]
  have := items_lns s s.size 0 (by omega) (by omega)
  rw [List.drop_zero] at this
  exact this
theorem ended_is (s : ByteArray) (hs : s.size ≤ 1000000) : lines_ended.f s = some (decide (Ended s.data.toList)) := by
  unfold lines_ended.f
  rw [ByteArray.toList_eq]
  by_cases h0 : s.data.toList = []
  · rw [if_pos h0, decide_eq_true (.inl h0)]
  · rw [if_neg h0]
    have hp : 1 ≤ s.size := by
      rcases Nat.eq_zero_or_pos s.size with h | h
      · exact absurd (List.length_eq_zero_iff.1 ((L_size s).trans h)) h0
      · exact h
    have hw : wrap64 ((s.size : Int) - (((⟨#[10]⟩ : ByteArray).size : Nat) : Int)) = ((s.size - 1 : Nat) : Int) := by
      rw [show (((⟨#[10]⟩ : ByteArray).size : Nat) : Int) = 1 from rfl, w64 (by omega) (by omega)]; omega
    unfold strings_HasSuffix.f stringslite_HasSuffix.f
    rw [hw, if_pos (by show (s.size : Int) ≥ 1; omega), if_pos (by omega), if_pos (by omega)]
    simp only [Option.bind_some, Int.toNat_natCast]
    congr 1
    rw [ByteArray.toList_eq, L_extract, ByteArray.toList_eq]
    have hg : s.data.toList.getLast? = some 10 ↔ (s.data.toList.drop (s.size - 1)).take (s.size - (s.size - 1)) = [10] := by
      have hl : (s.data.toList.drop (s.size - 1)).length = 1 := by rw [List.length_drop, L_size]; omega
      rw [List.take_of_length_le (by rw [hl]; omega)]
      obtain ⟨x, hx⟩ : ∃ x, s.data.toList.drop (s.size - 1) = [x] := List.length_eq_one_iff.1 hl
      have : s.data.toList.getLast? = some x := by
        rw [← List.take_append_drop (s.size - 1) s.data.toList, hx]; simp
      rw [this, hx]; simp
    by_cases hg' : s.data.toList.getLast? = some 10
    · rw [decide_eq_true (show Ended _ from .inr hg'), hg.1 hg']; rfl
    · rw [decide_eq_false (fun h => h.elim h0 hg')]
      exact beq_eq_false_iff_ne.2 (fun e => hg' (hg.2 e))
theorem count_is (s : ByteArray) (hs : s.size ≤ 1000000) : lines_Count.f s = some ((lns s.data.toList).length : Int) := by
  unfold lines_Count.f
  rw [ended_is s hs]
  have hc : strings_Count.f s (⟨#[10]⟩ : ByteArray) = some ((s.data.toList.count 10 : Nat) : Int) := rfl
  have hle : s.data.toList.count 10 ≤ s.size := Nat.le_trans List.count_le_length (Nat.le_of_eq (L_size s))
  rw [hc]
  simp only [Option.bind_some]
  rw [lns_count]
  by_cases h : Ended s.data.toList
  · rw [decide_eq_true h, if_pos rfl, if_pos h]; rfl
  · rw [decide_eq_false h, if_neg (by decide), if_neg h, w64s _ (by omega)]
theorem whole_is (s : ByteArray) (hs : s.size ≤ 1000000) : ∃ r, lines_Whole.f s = some r ∧ r.data.toList = (if Ended s.data.toList then s.data.toList else s.data.toList ++ [10]) ∧ r.size ≤ s.size + 1 := by
  unfold lines_Whole.f
  rw [ended_is s hs]
  simp only [Option.bind_some]
  by_cases h : Ended s.data.toList
  · rw [decide_eq_true h, if_pos rfl, if_pos h]; exact ⟨s, rfl, rfl, by omega⟩
  · rw [decide_eq_false h, if_neg (by decide), if_neg h, if_pos (by omega)]
    refine ⟨_, rfl, ?_, ?_⟩
    · rw [L_append]
    · rw [ByteArray.size_append]; exact Nat.le_refl _
theorem whole_ended (l : List UInt8) : Ended (if Ended l then l else l ++ [10]) := by
  split
  · assumption
  · exact .inr (by simp)
theorem same_loop (a b : List ByteArray) (h : a.map (·.data.toList) = b.map (·.data.toList)) (hl : a.length ≤ 10000000) : ∀ (d j : Nat), a.length - j = d → j ≤ a.length → Ev (fun k => concordatref01_Same.l0 k a b (j : Int)) true := by
  have hlen : a.length = b.length := by have := congrArg List.length h; simpa using this
  intro d
  induction d with
  | zero =>
    intro j hd hj
    refine Ev.step (f := fun _ => some true) (fun k => ?_) (Ev.now _)
    simp only [concordatref01_Same.l0]
    rw [if_neg (by omega)]
  | succ d ih =>
    intro j hd hj
    have hg : (a.getD j ByteArray.empty).data.toList = (b.getD j ByteArray.empty).data.toList := by
      have e : (a.map (·.data.toList))[j]? = (b.map (·.data.toList))[j]? := by rw [h]
      rw [List.getElem?_map, List.getElem?_map, List.getElem?_eq_getElem (show j < a.length by omega), List.getElem?_eq_getElem (show j < b.length by omega)] at e
      rw [List.getD_eq_getElem?_getD, List.getD_eq_getElem?_getD, List.getElem?_eq_getElem (show j < a.length by omega), List.getElem?_eq_getElem (show j < b.length by omega)]
      simpa using e
    refine Ev.step (f := fun k => concordatref01_Same.l0 k a b ((j + 1 : Nat) : Int)) (fun k => ?_) (ih (j + 1) (by omega) (by omega))
    simp only [concordatref01_Same.l0]
    rw [if_pos (by omega), if_pos (by omega), if_pos (by omega), if_pos (show (rdOf ByteArray.empty a (j : Int)).toList = (rdOf ByteArray.empty b (j : Int)).toList by rw [ByteArray.toList_eq, ByteArray.toList_eq]; exact hg), w64s j (by omega)]
theorem same_runs (a b : List ByteArray) (h : a.map (·.data.toList) = b.map (·.data.toList)) (hl : a.length ≤ 10000000) : Ev (fun k => concordatref01_Same.f k a b) true := by
  have hlen : a.length = b.length := by have := congrArg List.length h; simpa using this
  exact Ev.congr (f := fun k => concordatref01_Same.l0 k a b ((0 : Nat) : Int)) (fun k => by simp only [concordatref01_Same.f]; rw [if_pos (by omega)]; rfl) (same_loop a b h hl _ 0 rfl (Nat.zero_le _))
theorem awake_runs : Ev (fun k => concordatlaw01_awake.f k) true := Ev.of (concordatlaw01_awake.mono) (k := 40) (by decide +kernel)
theorem lns_length (l : List UInt8) : (lns l).length ≤ l.length + 1 := by
  rw [lns_count]; have := List.count_le_length (l := l) (a := 10); split <;> omega
theorem L_getD (s : ByteArray) (i : Nat) (h : i < s.size) : s.data.toList[i]? = some (s[i]'h) := by
  rw [List.getElem?_eq_getElem (by rw [L_size]; exact h)]; rfl
theorem bt_of {s : ByteArray} {i : Nat} (h : i < s.size) : ∃ b : UInt8, s.data.toList[i]? = some b ∧ bt s (i : Int) = (b.toNat : Int) := by
  refine ⟨s[i]'h, L_getD s i h, ?_⟩
  unfold bt
  rw [dif_pos (show ((i : Int)).toNat < s.size from h)]; rfl
theorem ten_iff (b : UInt8) : ((b.toNat : Int) = 10) ↔ b = 10 := by
  constructor
  · intro h; exact UInt8.toNat.inj (show b.toNat = 10 by omega)
  · rintro rfl; rfl
theorem bt_ten {s : ByteArray} {i : Nat} (h : i < s.size) : bt s (i : Int) = 10 ↔ s.data.toList[i]? = some 10 := by
  obtain ⟨b, h1, h2⟩ := bt_of h
  rw [h1, h2, ten_iff]; simp
/-- line j (from 0 on) begins at p -/
def At (s : ByteArray) (j p : Nat) : Prop :=
  ∃ k, s.size - p ≤ k ∧ (lines_all.items s s.size 0).drop j = lines_all.items s k p ∧ j ≤ (lines_all.items s s.size 0).length ∧ p ≤ s.size ∧ (p = 0 ∨ s.data.toList[p - 1]? = some 10)
theorem at_zero (s : ByteArray) : At s 0 0 := ⟨s.size, by omega, rfl, Nat.zero_le _, Nat.zero_le _, .inl rfl⟩
theorem start_at {s : ByteArray} (hs : s.size ≤ 1000000) {j p : Nat} (h : At s j p) : lines_Start.f s ((j : Int) + 1) = some ((p : Int), true) := by
  obtain ⟨k, hk, hd, hj, hp, he⟩ := h
  unfold lines_Start.f
  rw [if_pos hs]
  by_cases hlt : p < s.size
  · obtain ⟨k, rfl⟩ : ∃ k', k = k' + 1 := ⟨k - 1, by omega⟩
    rw [lines_all.items, if_pos hlt] at hd
    have hjl : j < (lines_all.items s s.size 0).length := by
      rcases Nat.lt_or_ge j (lines_all.items s s.size 0).length with h | h
      · exact h
      · rw [List.drop_eq_nil_of_le h] at hd; cases hd
    rw [if_pos (by omega)]
    have hg : (lines_all.items s s.size 0)[j]? = some (p, s.extract p (p + lines_all.step s p)) := by
      have := congrArg (fun l => l[0]?) hd
      simpa [List.getElem?_drop] using this
    rw [show ((j : Int) + 1 - 1).toNat = j by omega, List.getD_eq_getElem?_getD, hg]; rfl
  · obtain rfl : p = s.size := by omega
    rw [lines_all.items_end] at hd
    have hjl : (lines_all.items s s.size 0).length ≤ j := by
      have := congrArg List.length hd
      simp at this; omega
    rw [if_neg (by omega), if_pos (by omega), ended_is s hs]
    have hE : Ended s.data.toList := by
      rcases he with he | he
      · exact .inl (List.length_eq_zero_iff.1 ((L_size s).trans he))
      · exact .inr (by rw [List.getLast?_eq_getElem?, L_size]; exact he)
    rw [decide_eq_true hE]; rfl
theorem at_step {s : ByteArray} {j p i : Nat} (h : At s j p) (hpi : p ≤ i) (hi : i < s.size) (hno : ∀ q, p ≤ q → q < i → ¬ s.data.toList[q]? = some 10) (hten : s.data.toList[i]? = some 10) : At s (j + 1) (i + 1) := by
  obtain ⟨k, hk, hd, hj, hp, he⟩ := h
  obtain ⟨k, rfl⟩ : ∃ k', k = k' + 1 := ⟨k - 1, by omega⟩
  rw [lines_all.items, if_pos (by omega)] at hd
  have hst : lines_all.step s p = i + 1 - p := by
    unfold lines_all.step
    have hg : ∀ q, (s.data.toList.drop p)[q]? = s.data.toList[p + q]? := fun q => by rw [List.getElem?_drop]
    rcases index_cases (s.data.toList.drop p) with ⟨h1, h2⟩ | ⟨u, v, h1, h2, h3⟩
    · exact absurd (List.mem_of_getElem? (i := i - p) (by rw [hg, show p + (i - p) = i by omega]; exact hten)) h2
    · rw [h3, if_neg (by omega)]
      have hu1 : ¬ u.length < i - p := fun hlt => by
        have e := hg u.length
        rw [h1] at e
        exact hno (p + u.length) (by omega) (by omega) (by rw [← e]; simp)
      have hu2 : ¬ i - p < u.length := fun hlt => by
        have e := hg (i - p)
        rw [h1, List.getElem?_append_left hlt, show p + (i - p) = i by omega, hten] at e
        exact h2 (List.mem_of_getElem? e)
      omega
  have hjl : j < (lines_all.items s s.size 0).length := by
    rcases Nat.lt_or_ge j (lines_all.items s s.size 0).length with h | h
    · exact h
    · rw [List.drop_eq_nil_of_le h] at hd; cases hd
  refine ⟨k, by omega, ?_, by omega, by omega, .inr hten⟩
  rw [hst, show p + (i + 1 - p) = i + 1 by omega] at hd
  have := congrArg List.tail hd
  rw [List.tail_drop] at this
  simpa using this
theorem at_le {s : ByteArray} {j p : Nat} (h : At s j p) : j ≤ s.size := by
  obtain ⟨k, hk, hd, hj, hp, he⟩ := h
  have := lines_all.items_length s s.size 0 (Nat.zero_le _)
  omega
theorem place_loop (s : ByteArray) (hs : s.size ≤ 1000000) (at_ : Nat) (hat : at_ ≤ s.size) : ∀ (d i j p : Nat), at_ - i = d → i ≤ at_ → p ≤ i → At s j p → (∀ q, p ≤ q → q < i → ¬ s.data.toList[q]? = some 10) →
    ∃ j' p', At s j' p' ∧ p' ≤ at_ ∧ (∀ q, p' ≤ q → q < at_ → ¬ s.data.toList[q]? = some 10) ∧ Ev (fun k => lines_Place.l0 k s (at_ : Int) ((j : Int) + 1) (p : Int) (at_ : Int) (i : Int)) ((j' : Int) + 1, (at_ : Int) - p' + 1) := by
  intro d
  induction d with
  | zero =>
    intro i j p hd hi hpi hA hno
    obtain rfl : i = at_ := by omega
    refine ⟨j, p, hA, hpi, hno, Ev.step (f := fun _ => some ((j : Int) + 1, (i : Int) - p + 1)) (fun k => ?_) (Ev.now _)⟩
    simp only [lines_Place.l0]
    rw [if_neg (by omega), w64 (x := (i : Int) - p) (by omega) (by omega), w64 (by omega) (by omega)]
  | succ d ih =>
    intro i j p hd hi hpi hA hno
    have hlt : i < s.size := by omega
    have hj := at_le hA
    by_cases ht : bt s (i : Int) = 10
    · have h10 := (bt_ten hlt).1 ht
      obtain ⟨j', p', h1, h2, h3, h4⟩ := ih (i + 1) (j + 1) (i + 1) (by omega) (by omega) (Nat.le_refl _) (at_step hA hpi hlt hno h10) (fun q h h' => by omega)
      refine ⟨j', p', h1, h2, h3, Ev.step (fun k => ?_) h4⟩
      simp only [lines_Place.l0]
      rw [if_pos (by omega), if_pos (by omega), if_pos (by omega), if_pos ht, w64s i (by omega), w64 (x := (j : Int) + 1 + 1) (by omega) (by omega)]; rfl
    · obtain ⟨j', p', h1, h2, h3, h4⟩ := ih (i + 1) j p (by omega) (by omega) (by omega) hA (fun q h h' => by
        by_cases e : q = i
        · subst e; exact fun h => ht ((bt_ten hlt).2 h)
        · exact hno q h (by omega))
      refine ⟨j', p', h1, h2, h3, Ev.step (fun k => ?_) h4⟩
      simp only [lines_Place.l0]
      rw [if_pos (by omega), if_pos (by omega), if_pos (by omega), if_neg ht, w64s i (by omega)]
theorem place_none (s : ByteArray) (x : Int) (h : x < 0 ∨ x > (s.size : Int)) : Ev (fun k => lines_Place.f k s x) (0, 0) := by
  have yes : Ev (fun k => lines_Place.j0 k s x true) (0, 0) := Ev.step (f := fun _ => some (0, 0)) (fun k => by simp only [lines_Place.j0]; rw [if_pos trivial]) (Ev.now _)
  by_cases h0 : x < 0
  · exact Ev.congr (fun k => by unfold lines_Place.f; rw [if_pos h0]) yes
  · exact Ev.congr (fun k => by unfold lines_Place.f; rw [if_neg h0, decide_eq_true (show x > (s.size : Int) by omega)]) yes
theorem place_some (s : ByteArray) (hs : s.size ≤ 1000000) (at_ : Nat) (hat : at_ ≤ s.size) :
    ∃ j' p', At s j' p' ∧ p' ≤ at_ ∧ (∀ q, p' ≤ q → q < at_ → ¬ s.data.toList[q]? = some 10) ∧ Ev (fun k => lines_Place.f k s (at_ : Int)) ((j' : Int) + 1, (at_ : Int) - p' + 1) := by
  obtain ⟨j', p', h1, h2, h3, h4⟩ := place_loop s hs at_ hat _ 0 0 0 rfl (Nat.zero_le _) (Nat.le_refl _) (at_zero s) (fun q h h' => by omega)
  refine ⟨j', p', h1, h2, h3, ?_⟩
  refine Ev.congr (f := fun k => lines_Place.j0 k s (at_ : Int) false) (fun k => by unfold lines_Place.f; rw [if_neg (by omega), decide_eq_false (by omega)]) ?_
  exact Ev.step (fun k => by simp only [lines_Place.j0]; rw [if_neg (by decide)]; rfl) h4
theorem no_ten {l : List UInt8} (h : ∀ q : Nat, ¬ l[q]? = some 10) : 10 ∉ l := fun hm => by
  obtain ⟨q, hq, e⟩ := List.getElem_of_mem hm
  exact h q (by rw [List.getElem?_eq_getElem hq, e])
theorem ref_split_loop (s : ByteArray) (hs : s.size ≤ 1000000) : ∀ (d i p : Nat) (out : List ByteArray), s.size - i = d → p ≤ i → i ≤ s.size → out.length ≤ i → (∀ q, p ≤ q → q < i → ¬ s.data.toList[q]? = some 10) →
    ∃ r, Ev (fun k => concordatref01_Split.l0 k s out (p : Int) (i : Int)) r ∧ r.map (·.data.toList) = out.map (·.data.toList) ++ lns (s.data.toList.drop p) := by
  intro d
  induction d with
  | zero =>
    intro i p out hd hp hi ho hno
    obtain rfl : i = s.size := by omega
    by_cases hlt : p < s.size
    · refine ⟨out ++ [s.extract p s.size], Ev.step (f := fun _ => some (out ++ [s.extract p s.size])) (fun k => ?_) (Ev.now _), ?_⟩
      · simp only [concordatref01_Split.l0]
        rw [if_neg (by omega), if_pos (by omega), if_pos (by omega), if_pos (by omega), if_pos (by omega)]; rfl
      · have hl : (s.data.toList.drop p).length = s.size - p := by rw [List.length_drop, L_size]
        have hn : 10 ∉ s.data.toList.drop p := no_ten (fun q hq => by
          rw [List.getElem?_drop] at hq
          have : p + q < s.size := by
            rcases Nat.lt_or_ge (p + q) s.size with h | h
            · exact h
            · rw [List.getElem?_eq_none (by rw [L_size]; exact h)] at hq; cases hq
          exact hno (p + q) (by omega) this hq)
        rw [List.map_append, List.map_cons, List.map_nil, L_extract, List.take_of_length_le (by rw [hl]; omega), lns_last _ hn (by intro e; rw [e] at hl; simp at hl; omega)]
    · refine ⟨out, Ev.step (f := fun _ => some out) (fun k => ?_) (Ev.now _), ?_⟩
      · simp only [concordatref01_Split.l0]
        rw [if_neg (by omega), if_neg (by omega)]
      · rw [List.drop_eq_nil_of_le (by rw [L_size]; omega), lns_nil, List.append_nil]
  | succ d ih =>
    intro i p out hd hp hi ho hno
    have hlt : i < s.size := by omega
    by_cases ht : bt s (i : Int) = 10
    · have h10 := (bt_ten hlt).1 ht
      obtain ⟨r, h1, h2⟩ := ih (i + 1) (i + 1) (out ++ [s.extract p (i + 1)]) (by omega) (Nat.le_refl _) (by omega) (by simp; omega) (fun q h h' => by omega)
      refine ⟨r, Ev.step (fun k => ?_) h1, ?_⟩
      · simp only [concordatref01_Split.l0]
        rw [if_pos (by omega), if_pos (by omega), if_pos ht, if_pos (by omega), w64s i (by omega), if_pos (by omega), if_pos (by omega), if_pos (by omega)]; rfl
      · rw [h2, List.map_append, List.append_assoc, List.map_cons, List.map_nil, L_extract]
        have hs2 : s.data.toList.drop p = (s.data.toList.drop p).take (i - p) ++ 10 :: s.data.toList.drop (i + 1) := by
          have e : (s.data.toList.drop p).drop (i - p) = 10 :: s.data.toList.drop (i + 1) := by
            rw [List.drop_drop, show p + (i - p) = i by omega]
            obtain ⟨hb, he⟩ := List.getElem?_eq_some_iff.1 h10
            rw [List.drop_eq_getElem_cons hb, he]
          rw [← e, List.take_append_drop]
        have hn : 10 ∉ (s.data.toList.drop p).take (i - p) := no_ten (fun q hq => by
          have hq1 : q < i - p := by
            rcases Nat.lt_or_ge q (i - p) with h | h
            · exact h
            · rw [List.getElem?_eq_none (by rw [List.length_take]; omega)] at hq; cases hq
          rw [List.getElem?_take_of_lt hq1, List.getElem?_drop] at hq
          exact hno (p + q) (by omega) (by omega) hq)
        have ht2 : (s.data.toList.drop p).take (i + 1 - p) = (s.data.toList.drop p).take (i - p) ++ [10] := by
          rw [show i + 1 - p = (i - p) + 1 by omega, List.take_add_one, List.getElem?_drop, show p + (i - p) = i by omega, h10]; rfl
        rw [ht2]
        conv => rhs; rw [hs2, lns_line _ _ hn]
        rfl
    · obtain ⟨r, h1, h2⟩ := ih (i + 1) p out (by omega) (by omega) (by omega) (by omega) (fun q h h' => by
        by_cases e : q = i
        · subst e; exact fun h => ht ((bt_ten hlt).2 h)
        · exact hno q h (by omega))
      refine ⟨r, Ev.step (fun k => ?_) h1, h2⟩
      simp only [concordatref01_Split.l0]
      rw [if_pos (by omega), if_pos (by omega), if_neg ht, w64s i (by omega)]
theorem ref_split (s : ByteArray) (hs : s.size ≤ 1000000) : ∃ r, Ev (fun k => concordatref01_Split.f k s) r ∧ r.map (·.data.toList) = lns s.data.toList := by
  obtain ⟨r, h1, h2⟩ := ref_split_loop s hs _ 0 0 [] rfl (Nat.le_refl _) (Nat.zero_le _) (Nat.zero_le _) (fun q h h' => by omega)
  exact ⟨r, h1, by simpa using h2⟩
theorem both_loop (s : ByteArray) (n : Nat) (hn : n ≤ s.size) (hs : s.size ≤ 1000000) : ∀ (d i : Nat) (line p : Int), n - i = d → i ≤ n → ∃ r, Ev (fun k => lines_Place.l0 k s (n : Int) line p (n : Int) (i : Int)) r ∧ Ev (fun k => concordatref01_Place.l0 k s (n : Int) line p (i : Int)) r := by
  intro d
  induction d with
  | zero =>
    intro i line p hd hi
    obtain rfl : i = n := by omega
    refine ⟨(line, wrap64 (wrap64 ((i : Int) - p) + 1)), Ev.step (f := fun _ => some (line, wrap64 (wrap64 ((i : Int) - p) + 1))) (fun k => ?_) (Ev.now _), Ev.step (f := fun _ => some (line, wrap64 (wrap64 ((i : Int) - p) + 1))) (fun k => ?_) (Ev.now _)⟩
    · simp only [lines_Place.l0]; rw [if_neg (by omega)]
    · simp only [concordatref01_Place.l0]; rw [if_neg (by omega)]
  | succ d ih =>
    intro i line p hd hi
    by_cases ht : bt s (i : Int) = 10
    · obtain ⟨r, h1, h2⟩ := ih (i + 1) (wrap64 (line + 1)) (wrap64 ((i : Int) + 1)) (by omega) (by omega)
      refine ⟨r, Ev.step (fun k => ?_) h1, Ev.step (fun k => ?_) h2⟩
      · simp only [lines_Place.l0]
        rw [if_pos (by omega), if_pos (by omega), if_pos (by omega), if_pos ht, w64s i (by omega)]
      · simp only [concordatref01_Place.l0]
        rw [if_pos (by omega), if_pos (by omega), if_pos (by omega), if_pos ht, w64s i (by omega)]
    · obtain ⟨r, h1, h2⟩ := ih (i + 1) line p (by omega) (by omega)
      refine ⟨r, Ev.step (fun k => ?_) h1, Ev.step (fun k => ?_) h2⟩
      · simp only [lines_Place.l0]
        rw [if_pos (by omega), if_pos (by omega), if_pos (by omega), if_neg ht, w64s i (by omega)]
      · simp only [concordatref01_Place.l0]
        rw [if_pos (by omega), if_pos (by omega), if_pos (by omega), if_neg ht, w64s i (by omega)]
theorem both_place (s : ByteArray) (hs : s.size ≤ 1000000) (x : Int) : ∃ r, Ev (fun k => lines_Place.f k s x) r ∧ Ev (fun k => concordatref01_Place.f k s x) r := by
  by_cases h : x < 0 ∨ x > (s.size : Int)
  · refine ⟨(0, 0), place_none s x h, ?_⟩
    have yes : Ev (fun k => concordatref01_Place.j0 k s x true) (0, 0) := Ev.step (f := fun _ => some (0, 0)) (fun k => by simp only [concordatref01_Place.j0]; rw [if_pos trivial]) (Ev.now _)
    by_cases h0 : x < 0
    · exact Ev.congr (fun k => by unfold concordatref01_Place.f; rw [if_pos h0]) yes
    · exact Ev.congr (fun k => by unfold concordatref01_Place.f; rw [if_neg h0, decide_eq_true (show x > (s.size : Int) by omega)]) yes
  · obtain ⟨n, rfl⟩ : ∃ n : Nat, x = (n : Int) := ⟨x.toNat, by omega⟩
    obtain ⟨r, h1, h2⟩ := both_loop s n (by omega) hs _ 0 1 0 rfl (Nat.zero_le _)
    refine ⟨r, ?_, ?_⟩
    · refine Ev.congr (f := fun k => lines_Place.j0 k s (n : Int) false) (fun k => by unfold lines_Place.f; rw [if_neg (by omega), decide_eq_false (by omega)]) ?_
      exact Ev.step (fun k => by simp only [lines_Place.j0]; rw [if_neg (by decide)]; rfl) h1
    · refine Ev.congr (f := fun k => concordatref01_Place.j0 k s (n : Int) false) (fun k => by unfold concordatref01_Place.f; rw [if_neg (by omega), decide_eq_false (by omega)]) ?_
      exact Ev.step (fun k => by simp only [concordatref01_Place.j0]; rw [if_neg (by decide)]; rfl) h2
theorem items_pos (s : ByteArray) : ∀ k p j y, (lines_all.items s k p)[j]? = some y → y.1 = p + (((lines_all.items s k p).map (fun x => x.2.data.toList)).take j).flatten.length
  | 0, p, j, y, h => by simp [lines_all.items] at h
  | k + 1, p, j, y, h => by
    rw [lines_all.items] at h ⊢
    by_cases hlt : p < s.size
    · rw [if_pos hlt] at h ⊢
      have hs := lines_all.step_pos hlt
      cases j with
      | zero => simp at h; subst h; simp
      | succ j =>
        rw [List.getElem?_cons_succ] at h
        have ih := items_pos s k _ j y h
        rw [ih, List.map_cons, List.take_succ_cons, List.flatten_cons, List.length_append, L_extract, List.length_take, List.length_drop, L_size]
        omega
    · rw [if_neg hlt] at h; simp at h
theorem flat_take_le (m : List (List UInt8)) (j : Nat) : (m.take j).flatten.length ≤ m.flatten.length := by
  conv => rhs; rw [← List.take_append_drop j m, List.flatten_append, List.length_append]
  omega
theorem both_start (s : ByteArray) (hs : s.size ≤ 1000000) (x : Int) (hx : -9223372036854775808 ≤ x) : ∃ r, lines_Start.f s x = some r ∧ Ev (fun k => concordatref01_Start.f k s x) r := by
  obtain ⟨R, hR, lR⟩ := ref_split s hs
  have li := items_lns s s.size 0 (by omega) (by omega)
  rw [List.drop_zero] at li
  have hn : R.length = (lines_all.items s s.size 0).length := by
    have := congrArg List.length (lR.trans li.symm); simpa using this
  have hle := lines_all.items_length s s.size 0 (Nat.zero_le _)
  obtain ⟨N, hN⟩ : ∃ N, (lines_all.items s s.size 0).length = N := ⟨_, rfl⟩
  rw [hN] at hn hle
  have hw : wrap64 ((R.length : Int) + 1) = (N : Int) + 1 := by rw [hn, w64 (by omega) (by omega)]
  unfold lines_Start.f
  rw [if_pos hs, hN, ended_is s hs]
  simp only [Option.bind_some]
  by_cases h1 : x < 1
  · refine ⟨(0, false), by rw [if_neg (by omega), if_neg (by omega)], ?_⟩
    refine Ev.bind hR ?_
    exact Ev.congr (fun k => by rw [if_pos h1]) (Ev.step (f := fun _ => some (0, false)) (fun k => by simp only [concordatref01_Start.j0]; rw [if_pos trivial]) (Ev.now _))
  by_cases h2 : x > (N : Int) + 1
  · refine ⟨(0, false), by rw [if_neg (by omega), if_neg (by omega)], ?_⟩
    refine Ev.bind hR ?_
    exact Ev.congr (fun k => by rw [if_neg h1, hw, decide_eq_true h2]) (Ev.step (f := fun _ => some (0, false)) (fun k => by simp only [concordatref01_Start.j0]; rw [if_pos trivial]) (Ev.now _))
  obtain ⟨n, rfl⟩ : ∃ n : Nat, x = (n : Int) + 1 := ⟨(x - 1).toNat, by omega⟩
  have hflat : (R.map (·.data.toList)).flatten.length = s.size := by rw [lR, lns_flat, L_size]
  -- the loop's sum
  have loop : ∀ d i r, n - i = d → i ≤ n → Ev (fun k => concordatref01_Start.l0 k s ((n : Int) + 1) R (((R.map (·.data.toList)).take n).flatten.length : Int) (n : Int)) r → Ev (fun k => concordatref01_Start.l0 k s ((n : Int) + 1) R (((R.map (·.data.toList)).take i).flatten.length : Int) (i : Int)) r := by
    intro d
    induction d with
    | zero => intro i r hd hi h; rw [show i = n by omega]; exact h
    | succ d ih =>
      intro i r hd hi h
      have hiR : i < R.length := by omega
      refine Ev.step (fun k => ?_) (ih (i + 1) r (by omega) (by omega) h)
      have e : ((R.map (·.data.toList)).take (i + 1)).flatten.length = ((R.map (·.data.toList)).take i).flatten.length + (rdOf ByteArray.empty R (i : Int)).size := by
        rw [List.take_add_one, List.getElem?_map, List.getElem?_eq_getElem hiR, List.flatten_append, List.length_append]
        show _ = _ + (R.getD i ByteArray.empty).size
        rw [List.getD_eq_getElem?_getD, List.getElem?_eq_getElem hiR]
        simp
      have hb := flat_take_le (R.map (·.data.toList)) (i + 1)
      rw [hflat] at hb
      simp only [concordatref01_Start.l0]
      rw [w64 (x := (n : Int) + 1 - 1) (by omega) (by omega), if_pos (by omega), if_pos (by omega), if_pos (by omega), w64s i (by omega), w64 (x := (((R.map (·.data.toList)).take i).flatten.length : Int) + _) (by omega) (by omega), e]
      simp
  have run : ∀ r, Ev (fun k => concordatref01_Start.l0 k s ((n : Int) + 1) R (((R.map (·.data.toList)).take n).flatten.length : Int) (n : Int)) r → Ev (fun k => concordatref01_Start.f k s ((n : Int) + 1)) r := fun r h => by
    refine Ev.bind hR ?_
    refine Ev.congr (f := fun k => concordatref01_Start.j0 k s ((n : Int) + 1) R false) (fun k => by rw [if_neg h1, hw, decide_eq_false h2]) ?_
    exact Ev.step (fun k => by simp only [concordatref01_Start.j0]; rw [if_neg (by decide)]; simp) (loop _ 0 r rfl (Nat.zero_le _) h)
  by_cases h3 : (n : Int) + 1 ≤ (N : Int)
  · have hnl : n < (lines_all.items s s.size 0).length := by omega
    refine ⟨_, by rw [if_pos ⟨by omega, h3⟩], run _ ?_⟩
    have hp := items_pos s s.size 0 n _ (List.getElem?_eq_getElem hnl)
    rw [li, ← lR, Nat.zero_add] at hp
    have hg : (lines_all.items s s.size 0).getD ((n : Int) + 1 - 1).toNat (0, ByteArray.empty) = (lines_all.items s s.size 0)[n]'hnl := by
      rw [show ((n : Int) + 1 - 1).toNat = n by omega, List.getD_eq_getElem?_getD, List.getElem?_eq_getElem hnl]; rfl
    rw [hg, hp]
    refine Ev.step (f := fun _ => some ((((R.map (·.data.toList)).take n).flatten.length : Int), true)) (fun k => ?_) (Ev.now _)
    simp only [concordatref01_Start.l0]
    rw [w64 (x := (n : Int) + 1 - 1) (by omega) (by omega), if_neg (by omega), hw, if_neg (by omega)]
  · have hnN : n = N := by omega
    have hall : ((R.map (·.data.toList)).take n).flatten.length = s.size := by
      rw [List.take_of_length_le (by rw [List.length_map]; omega), hflat]
    rw [hall] at run
    rw [if_neg (by omega), if_pos (by omega)]
    refine ⟨_, rfl, run _ ?_⟩
    refine Ev.step (f := fun _ => some (if decide (Ended s.data.toList) = true then ((s.size : Int), true) else (0, false))) (fun k => ?_) (Ev.now _)
    simp only [concordatref01_Start.l0]
    rw [w64 (x := (n : Int) + 1 - 1) (by omega) (by omega), if_neg (by omega), hw, if_pos (by omega)]
    by_cases hz : (s.size : Int) > 0
    · have hE : Ended s.data.toList ↔ bt s ((s.size : Int) - 1) = 10 := by
        rw [show (s.size : Int) - 1 = ((s.size - 1 : Nat) : Int) by omega, bt_ten (by omega)]
        constructor
        · rintro (h | h)
          · have := congrArg List.length h; rw [L_size] at this; have h9 : s.size = 0 := this; omega
          · rw [List.getLast?_eq_getElem?, L_size] at h; exact h
        · intro h; exact .inr (by rw [List.getLast?_eq_getElem?, L_size]; exact h)
      rw [if_pos hz, w64 (x := (s.size : Int) - 1) (by omega) (by omega), if_pos (by omega), if_pos (by omega)]
      by_cases hb : bt s ((s.size : Int) - 1) = 10
      · rw [if_pos hb, decide_eq_true (hE.2 hb), if_pos rfl]
      · rw [if_neg hb, decide_eq_false (fun h => hb (hE.1 h)), if_neg (by decide)]
    · have hE : Ended s.data.toList := .inl (List.length_eq_zero_iff.1 ((L_size s).trans (by omega)))
      rw [if_neg hz, decide_eq_true hE, if_pos rfl]
theorem LinesPlaces : concordatlaw01_LinesPlaces.Pure := by
  intro a x y _ hx hy
  refine Ev.rounds ?_
  refine Ev.bind awake_runs ?_
  by_cases g1 : (a.size : Int) > 5000
  · exact Ev.congr (f := fun _ => some true) (fun k => by rw [if_pos rfl, if_pos g1]) (Ev.now _)
  have hs : a.size ≤ 1000000 := by omega
  have hy' : -9223372036854775808 ≤ y := by
    have := hy
    simp [Lit.wf, IntKind.min, IntKind.max, IntKind.signed, IntKind.bits] at this; omega
  obtain ⟨r, h1, h2⟩ := both_place a hs x
  obtain ⟨t, h3, h4⟩ := both_start a hs y hy'
  refine Ev.congr (fun k => by rw [if_pos rfl, if_neg g1]) (Ev.bind h1 (Ev.bind h2 ?_))
  refine Ev.congr (f := fun k => (concordatref01_Start.f k a y).bind fun u => if r.1 = r.1 then if r.2 = r.2 then if t.1 = u.1 then some (t.2 == u.2) else none else none else none) (fun k => by rw [h3]; rfl) (Ev.bind h4 ?_)
  exact Ev.congr (f := fun _ => some true) (fun k => by simp) (Ev.now _)
end Go.Proofs.Ythgmnnlnggalgaa.Pure
