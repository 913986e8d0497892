/- The law LinesSplits answers true for every string and every slice of strings of bulk at most 1048576. -/
import Derived.Test.YthgmnnlnggalgaaPLinesx2
import Derived.Test.YthgmnnlnggalgaaOpen
namespace Go.Proofs.Ythgmnnlnggalgaa.Pure
open Go.RowKit Go.Proofs.Ythgmnnlnggalgaa Go.Proofs.Ythgmnnlnggalgaa.PLines Go.Proofs.YthgmnnlnggalgaaW.PrintWords Go.Proofs.YthgmnnlnggalgaaW.PrintLast Go.Proofs.YthgmnnlnggalgaaW.PrintMore
set_option linter.unusedVariables false
set_option linter.unusedSimpArgs false
theorem w64 {x : Int} (h0 : -9223372036854775808 ≤ x) (h1 : x ≤ 9223372036854775807) : wrap64 x = x := by unfold wrap64; omega
theorem w64s (i : Nat) (h : i ≤ 1000000000) : wrap64 ((i : Int) + 1) = ((i + 1 : Nat) : Int) := by rw [w64 (by omega) (by omega)]; omega
/-! ### the lines of a row of bytes -/
def lns : List UInt8 → List (List UInt8)
  | [] => []
  | b :: l => if b = 10 then [10] :: lns l else match lns l with | [] => [[b]] | x :: xs => (b :: x) :: xs
theorem lns_nil : lns [] = [] := rfl
theorem lns_end (l : List UInt8) : lns (10 :: l) = [10] :: lns l := by rw [lns, if_pos rfl]
theorem lns_cons {b : UInt8} (h : b ≠ 10) (l : List UInt8) : lns (b :: l) = match lns l with | [] => [[b]] | x :: xs => (b :: x) :: xs := by rw [lns, if_neg h]
theorem lns_line : ∀ (u v : List UInt8), 10 ∉ u → lns (u ++ 10 :: v) = (u ++ [10]) :: lns v
  | [], v, _ => by rw [List.nil_append, lns_end]; rfl
  | b :: u, v, h => by
    have hb : b ≠ 10 := fun e => h (by rw [e]; exact List.mem_cons_self)
    have hu : 10 ∉ u := fun e => h (List.mem_cons_of_mem _ e)
    rw [List.cons_append, lns_cons hb, lns_line u v hu]; rfl
theorem lns_last : ∀ (u : List UInt8), 10 ∉ u → u ≠ [] → lns u = [u]
  | [], _, h => absurd rfl h
  | [b], h, _ => by
    have hb : b ≠ 10 := fun e => h (by rw [e]; exact List.mem_cons_self)
    rw [lns_cons hb, lns_nil]
  | b :: c :: u, h, _ => by
    have hb : b ≠ 10 := fun e => h (by rw [e]; exact List.mem_cons_self)
    have hu : 10 ∉ c :: u := fun e => h (List.mem_cons_of_mem _ e)
    rw [lns_cons hb, lns_last (c :: u) hu (by simp)]
theorem lns_flat : ∀ l : List UInt8, (lns l).flatten = l
  | [] => rfl
  | b :: l => by
    have ih := lns_flat l
    by_cases h : b = 10
    · subst h; rw [lns_end, List.flatten_cons, ih]; rfl
    · rw [lns_cons h]
      split <;> rename_i e <;> rw [e] at ih
      · simp at ih; subst ih; rfl
      · rw [List.flatten_cons, List.cons_append, ← List.flatten_cons, ih]
theorem lns_ne : ∀ l : List UInt8, ∀ x ∈ lns l, x ≠ []
  | [], x, h => by cases h
  | b :: l, x, h => by
    have ih := lns_ne l
    by_cases hb : b = 10
    · subst hb; rw [lns_end] at h
      rcases List.mem_cons.1 h with rfl | h
      · simp
      · exact ih x h
    · rw [lns_cons hb] at h
      split at h <;> rename_i e <;> rw [e] at ih
      · rcases List.mem_cons.1 h with rfl | h
        · simp
        · cases h
      · rcases List.mem_cons.1 h with rfl | h
        · simp
        · exact ih x (List.mem_cons_of_mem _ h)
/-- a text that is empty, or whose last line has an end -/
def Ended (l : List UInt8) : Prop := l = [] ∨ l.getLast? = some 10
instance (l : List UInt8) : Decidable (Ended l) := inferInstanceAs (Decidable (_ ∨ _))
theorem lns_append : ∀ (a b : List UInt8), Ended a → lns (a ++ b) = lns a ++ lns b
  | [], b, _ => by rw [List.nil_append, lns_nil, List.nil_append]
  | [x], b, h => by
    have hx : x = 10 := by rcases h with h | h <;> simp at h; exact h
    subst hx; rw [List.cons_append, lns_end, List.nil_append, lns_end, lns_nil]; rfl
  | x :: y :: a, b, h => by
    have h' : Ended (y :: a) := .inr (by rcases h with h | h <;> simp at h ⊢; exact h)
    have ih := lns_append (y :: a) b h'
    by_cases hx : x = 10
    · subst hx; rw [List.cons_append, lns_end, ih, lns_end]; rfl
    · rw [List.cons_append, lns_cons hx, lns_cons hx, ih]
      cases e : lns (y :: a) with
      | nil => have := lns_flat (y :: a); rw [e] at this; cases this
      | cons z zs => rfl
theorem lns_count : ∀ l : List UInt8, (lns l).length = l.count 10 + (if Ended l then 0 else 1)
  | [] => by simp [lns, Ended]
  | [x] => by
    by_cases hx : x = 10
    · subst hx; simp [lns, Ended]
    · rw [lns_cons hx, lns_nil]; simp [Ended, hx]
  | x :: y :: l => by
    have ih := lns_count (y :: l)
    have he : Ended (x :: y :: l) ↔ Ended (y :: l) := by simp [Ended]
    by_cases hx : x = 10
    · subst hx; rw [lns_end, List.length_cons, ih, List.count_cons_self]
      simp only [he]; omega
    · rw [lns_cons hx]
      have hc : (x :: y :: l).count 10 = (y :: l).count 10 := by rw [List.count_cons_of_ne hx]
      rw [hc]; simp only [he]
      cases e : lns (y :: l) with
      | nil => have := lns_flat (y :: l); rw [e] at this; cases this
      | cons z zs => rw [e] at ih; simpa using ih
/-- a line has no end but at its end; each but the last one has one -/
theorem lns_form : ∀ (l : List UInt8) (i : Nat) (x : List UInt8), (lns l)[i]? = some x → (10 ∉ x.dropLast) ∧ (i + 1 < (lns l).length → x.getLast? = some 10)
  | [], i, x, h => by simp [lns] at h
  | b :: l, i, x, h => by
    have ih := lns_form l
    by_cases hb : b = 10
    · subst hb
      rw [lns_end] at h ⊢
      cases i with
      | zero => simp at h; subst h; simp
      | succ i => simp at h; obtain ⟨h1, h2⟩ := ih i x h; exact ⟨h1, fun hl => h2 (by simpa using hl)⟩
    · rw [lns_cons hb] at h ⊢
      cases e : lns l with
      | nil =>
        rw [e] at h
        cases i with
        | zero => simp at h; subst h; simp
        | succ i => simp at h
      | cons z zs =>
        rw [e] at h ih
        have hz : z ≠ [] := lns_ne l z (by rw [e]; exact List.mem_cons_self)
        cases i with
        | zero =>
          simp at h; subst h
          obtain ⟨h1, h2⟩ := ih 0 z rfl
          refine ⟨?_, fun hl => ?_⟩
          · rw [List.dropLast_cons_of_ne_nil hz, List.mem_cons]; exact fun h => h.elim (fun e => hb e.symm) h1
          · rw [List.getLast?_cons, h2 (by simpa using hl)]; rfl
        | succ i => simp at h; obtain ⟨h1, h2⟩ := ih (i + 1) x (by simpa using h); exact ⟨h1, fun hl => h2 (by simpa using hl)⟩
theorem L_extract (s : ByteArray) (p q : Nat) : (s.extract p q).data.toList = (s.data.toList.drop p).take (q - p) := by
  rw [ByteArray.data_extract, Array.toList_extract, List.extract_eq_take_drop]
theorem L_append (a b : ByteArray) : (a ++ b).data.toList = a.data.toList ++ b.data.toList := by simp
theorem L_size (s : ByteArray) : s.data.toList.length = s.size := rfl
theorem index_cases : ∀ l : List UInt8, (Lib.indexByte l 10 = -1 ∧ 10 ∉ l) ∨ (∃ u v, l = u ++ 10 :: v ∧ 10 ∉ u ∧ Lib.indexByte l 10 = (u.length : Int))
  | [] => .inl ⟨rfl, by simp⟩
  | b :: l => by
    by_cases hb : b = 10
    · subst hb
      exact .inr ⟨[], l, rfl, by simp, by simp [Lib.indexByte]⟩
    · have hb' : (b == 10) = false := by simpa using hb
      rcases index_cases l with ⟨h1, h2⟩ | ⟨u, v, h1, h2, h3⟩
      · refine .inl ⟨by simp [Lib.indexByte, hb', h1], fun h => ?_⟩
        rcases List.mem_cons.1 h with e | e
        · exact hb e.symm
        · exact h2 e
      · refine .inr ⟨b :: u, v, by rw [h1]; rfl, fun h => ?_, ?_⟩
        · rcases List.mem_cons.1 h with e | e
          · exact hb e.symm
          · exact h2 e
        · have hne : ¬ ((u.length : Int) = -1) := by omega
          simp [Lib.indexByte, hb', h3, hne]
theorem items_lns (s : ByteArray) : ∀ k p, s.size - p ≤ k → p ≤ s.size → (lines_all.items s k p).map (fun x => x.2.data.toList) = lns (s.data.toList.drop p)
  | 0, p, hk, hp => by
    rw [List.drop_eq_nil_of_le (by rw [L_size]; omega)]; rfl
  | k + 1, p, hk, hp => by
    rw [lines_all.items]
    split
    · rename_i hlt
      have hs := lines_all.step_pos hlt
      rw [List.map_cons, items_lns s k _ (by omega) hs.2, ← List.drop_drop, L_extract, show p + lines_all.step s p - p = lines_all.step s p by omega]
      have hl : (s.data.toList.drop p).length = s.size - p := by rw [List.length_drop, L_size]
      obtain ⟨n, hn⟩ : ∃ n, lines_all.step s p = n := ⟨_, rfl⟩
      have hn' := hn
      unfold lines_all.step at hn
      rw [hn']
      obtain ⟨D, hD⟩ : ∃ D, s.data.toList.drop p = D := ⟨_, rfl⟩
      rw [hD] at hl hn ⊢
      rcases index_cases D with ⟨h1, h2⟩ | ⟨u, v, h1, h2, h3⟩
      · rw [h1, if_pos (by omega)] at hn
        have hn2 : D.length ≤ n := by omega
        rw [List.take_of_length_le hn2, List.drop_eq_nil_of_le hn2, lns_nil, lns_last _ h2 (by intro e; rw [e] at hl; simp at hl; omega)]
      · rw [h3, if_neg (by omega)] at hn
        have hn2 : n = u.length + 1 := by omega
        subst hn2; subst h1
        rw [lns_line u v h2]
        have e1 : (u ++ 10 :: v).drop (u.length + 1) = v := by
          rw [← List.drop_drop, List.drop_left]; rfl
        have e2 : (u ++ 10 :: v).take (u.length + 1) = u ++ [10] := by
          rw [List.take_append, List.take_of_length_le (by omega)]; simp
        rw [e1, e2]
    · rw [List.drop_eq_nil_of_le (by rw [L_size]; omega)]; rfl
theorem split_is (s : ByteArray) (hs : s.size ≤ 1000000) : ∃ r, lines_Split.f s = some r ∧ r.map (·.data.toList) = lns s.data.toList := by
  refine ⟨_, by unfold lines_Split.f; rw [if_pos hs], ?_⟩
  rw [List.map_map]
  have := items_lns s s.size 0 (by omega) (by omega)
  rw [List.drop_zero] at this
  exact this
theorem ended_is (s : ByteArray) (hs : s.size ≤ 1000000) : lines_ended.f s = some (decide (Ended s.data.toList)) := by
  unfold lines_ended.f
  rw [ByteArray.toList_eq]
  by_cases h0 : s.data.toList = []
  · rw [if_pos h0, decide_eq_true (.inl h0)]
  · rw [if_neg h0]
    have hp : 1 ≤ s.size := by
      rcases Nat.eq_zero_or_pos s.size with h | h
      · exact absurd (List.length_eq_zero_iff.1 ((L_size s).trans h)) h0
      · exact h
    have hw : wrap64 ((s.size : Int) - (((⟨#[10]⟩ : ByteArray).size : Nat) : Int)) = ((s.size - 1 : Nat) : Int) := by
      rw [show (((⟨#[10]⟩ : ByteArray).size : Nat) : Int) = 1 from rfl, w64 (by omega) (by omega)]; omega
    unfold strings_HasSuffix.f stringslite_HasSuffix.f
    rw [hw, if_pos (by show (s.size : Int) ≥ 1; omega), if_pos (by omega), if_pos (by omega)]
    simp only [Option.bind_some, Int.toNat_natCast]
    congr 1
    rw [ByteArray.toList_eq, L_extract, ByteArray.toList_eq]
    have hg : s.data.toList.getLast? = some 10 ↔ (s.data.toList.drop (s.size - 1)).take (s.size - (s.size - 1)) = [10] := by
      have hl : (s.data.toList.drop (s.size - 1)).length = 1 := by rw [List.length_drop, L_size]; omega
      rw [List.take_of_length_le (by rw [hl]; omega)]
      obtain ⟨x, hx⟩ : ∃ x, s.data.toList.drop (s.size - 1) = [x] := List.length_eq_one_iff.1 hl
      have : s.data.toList.getLast? = some x := by
        rw [← List.take_append_drop (s.size - 1) s.data.toList, hx]; simp
      rw [this, hx]; simp
    by_cases hg' : s.data.toList.getLast? = some 10
    · rw [decide_eq_true (show Ended _ from .inr hg'), hg.1 hg']; rfl
    · rw [decide_eq_false (fun h => h.elim h0 hg')]
      exact beq_eq_false_iff_ne.2 (fun e => hg' (hg.2 e))
theorem count_is (s : ByteArray) (hs : s.size ≤ 1000000) : lines_Count.f s = some ((lns s.data.toList).length : Int) := by
  unfold lines_Count.f
  rw [ended_is s hs]
  have hc : strings_Count.f s (⟨#[10]⟩ : ByteArray) = some ((s.data.toList.count 10 : Nat) : Int) := rfl
  have hle : s.data.toList.count 10 ≤ s.size := Nat.le_trans List.count_le_length (Nat.le_of_eq (L_size s))
  rw [hc]
  simp only [Option.bind_some]
  rw [lns_count]
  by_cases h : Ended s.data.toList
  · rw [decide_eq_true h, if_pos rfl, if_pos h]; rfl
  · rw [decide_eq_false h, if_neg (by decide), if_neg h, w64s _ (by omega)]
theorem whole_is (s : ByteArray) (hs : s.size ≤ 1000000) : ∃ r, lines_Whole.f s = some r ∧ r.data.toList = (if Ended s.data.toList then s.data.toList else s.data.toList ++ [10]) ∧ r.size ≤ s.size + 1 := by
  unfold lines_Whole.f
  rw [ended_is s hs]
  simp only [Option.bind_some]
  by_cases h : Ended s.data.toList
  · rw [decide_eq_true h, if_pos rfl, if_pos h]; exact ⟨s, rfl, rfl, by omega⟩
  · rw [decide_eq_false h, if_neg (by decide), if_neg h, if_pos (by omega)]
    refine ⟨_, rfl, ?_, ?_⟩
    · rw [L_append]
    · rw [ByteArray.size_append]; exact Nat.le_refl _
theorem whole_ended (l : List UInt8) : Ended (if Ended l then l else l ++ [10]) := by
  split
  · assumption
  · exact .inr (by simp)
theorem same_loop (a b : List ByteArray) (h : a.map (·.data.toList) = b.map (·.data.toList)) (hl : a.length ≤ 10000000) : ∀ (d j : Nat), a.length - j = d → j ≤ a.length → Ev (fun k => concordatref01_Same.l0 k a b (j : Int)) true := by
  have hlen : a.length = b.length := by have := congrArg List.length h; simpa using this
  intro d
  induction d with
  | zero =>
    intro j hd hj
    refine Ev.step (f := fun _ => some true) (fun k => ?_) (Ev.now _)
    simp only [concordatref01_Same.l0]
    rw [if_neg (by omega)]
  | succ d ih =>
    intro j hd hj
    have hg : (a.getD j ByteArray.empty).data.toList = (b.getD j ByteArray.empty).data.toList := by
      have e : (a.map (·.data.toList))[j]? = (b.map (·.data.toList))[j]? := by rw [h]
      rw [List.getElem?_map, List.getElem?_map, List.getElem?_eq_getElem (show j < a.length by omega), List.getElem?_eq_getElem (show j < b.length by omega)] at e
      rw [List.getD_eq_getElem?_getD, List.getD_eq_getElem?_getD, List.getElem?_eq_getElem (show j < a.length by omega), List.getElem?_eq_getElem (show j < b.length by omega)]
      simpa using e
    refine Ev.step (f := fun k => concordatref01_Same.l0 k a b ((j + 1 : Nat) : Int)) (fun k => ?_) (ih (j + 1) (by omega) (by omega))
    simp only [concordatref01_Same.l0]
    rw [if_pos (by omega), if_pos (by omega), if_pos (by omega), if_pos (show (rdOf ByteArray.empty a (j : Int)).toList = (rdOf ByteArray.empty b (j : Int)).toList by rw [ByteArray.toList_eq, ByteArray.toList_eq]; exact hg), w64s j (by omega)]
theorem same_runs (a b : List ByteArray) (h : a.map (·.data.toList) = b.map (·.data.toList)) (hl : a.length ≤ 10000000) : Ev (fun k => concordatref01_Same.f k a b) true := by
  have hlen : a.length = b.length := by have := congrArg List.length h; simpa using this
  exact Ev.congr (f := fun k => concordatref01_Same.l0 k a b ((0 : Nat) : Int)) (fun k => by simp only [concordatref01_Same.f]; rw [if_pos (by omega)]; rfl) (same_loop a b h hl _ 0 rfl (Nat.zero_le _))
theorem awake_runs : Ev (fun k => concordatlaw01_awake.f k) true := Ev.of (concordatlaw01_awake.mono) (k := 40) (by decide +kernel)
theorem lns_length (l : List UInt8) : (lns l).length ≤ l.length + 1 := by
  rw [lns_count]; have := List.count_le_length (l := l) (a := 10); split <;> omega
theorem L_getD (s : ByteArray) (i : Nat) (h : i < s.size) : s.data.toList[i]? = some (s[i]'h) := by
  rw [List.getElem?_eq_getElem (by rw [L_size]; exact h)]; rfl
theorem bt_of {s : ByteArray} {i : Nat} (h : i < s.size) : ∃ b : UInt8, s.data.toList[i]? = some b ∧ bt s (i : Int) = (b.toNat : Int) := by
  refine ⟨s[i]'h, L_getD s i h, ?_⟩
  unfold bt
  rw [dif_pos (show ((i : Int)).toNat < s.size from h)]; rfl
theorem ten_iff (b : UInt8) : ((b.toNat : Int) = 10) ↔ b = 10 := by
  constructor
  · intro h; exact UInt8.toNat.inj (show b.toNat = 10 by omega)
  · rintro rfl; rfl
theorem bt_ten {s : ByteArray} {i : Nat} (h : i < s.size) : bt s (i : Int) = 10 ↔ s.data.toList[i]? = some 10 := by
  obtain ⟨b, h1, h2⟩ := bt_of h
  rw [h1, h2, ten_iff]; simp
theorem join_is (l : List ByteArray) (hl : l.length ≤ 10000000) (hs : (l.map (·.data.toList)).flatten.length ≤ 100000000) : ∃ r, lines_Join.f l = some r ∧ r.data.toList = (l.map (·.data.toList)).flatten := by
  have e : Lib.join (l.map (·.data.toList)) (⟨#[]⟩ : ByteArray).data.toList = (l.map (·.data.toList)).flatten := by
    generalize l.map (·.data.toList) = m
    induction m with
    | nil => rfl
    | cons x m ih =>
      cases m with
      | nil => simp [Lib.join]
      | cons y m => rw [List.flatten_cons, ← ih]; simp [Lib.join]
  refine ⟨_, by unfold lines_Join.f strings_Join.f; rw [if_pos ⟨by omega, by rw [e]; omega⟩]; rfl, ?_⟩
  rw [e]
theorem no_ten {l : List UInt8} (h : ∀ q : Nat, ¬ l[q]? = some 10) : 10 ∉ l := fun hm => by
  obtain ⟨q, hq, e⟩ := List.getElem_of_mem hm
  exact h q (by rw [List.getElem?_eq_getElem hq, e])
theorem ref_split_loop (s : ByteArray) (hs : s.size ≤ 1000000) : ∀ (d i p : Nat) (out : List ByteArray), s.size - i = d → p ≤ i → i ≤ s.size → out.length ≤ i → (∀ q, p ≤ q → q < i → ¬ s.data.toList[q]? = some 10) →
    ∃ r, Ev (fun k => concordatref01_Split.l0 k s out (p : Int) (i : Int)) r ∧ r.map (·.data.toList) = out.map (·.data.toList) ++ lns (s.data.toList.drop p) := by
  intro d
  induction d with
  | zero =>
    intro i p out hd hp hi ho hno
    obtain rfl : i = s.size := by omega
    by_cases hlt : p < s.size
    · refine ⟨out ++ [s.extract p s.size], Ev.step (f := fun _ => some (out ++ [s.extract p s.size])) (fun k => ?_) (Ev.now _), ?_⟩
      · simp only [concordatref01_Split.l0]
        rw [if_neg (by omega), if_pos (by omega), if_pos (by omega), if_pos (by omega), if_pos (by omega)]; rfl
      · have hl : (s.data.toList.drop p).length = s.size - p := by rw [List.length_drop, L_size]
        have hn : 10 ∉ s.data.toList.drop p := no_ten (fun q hq => by
          rw [List.getElem?_drop] at hq
          have : p + q < s.size := by
            rcases Nat.lt_or_ge (p + q) s.size with h | h
            · exact h
            · rw [List.getElem?_eq_none (by rw [L_size]; exact h)] at hq; cases hq
          exact hno (p + q) (by omega) this hq)
        rw [List.map_append, List.map_cons, List.map_nil, L_extract, List.take_of_length_le (by rw [hl]; omega), lns_last _ hn (by intro e; rw [e] at hl; simp at hl; omega)]
    · refine ⟨out, Ev.step (f := fun _ => some out) (fun k => ?_) (Ev.now _), ?_⟩
      · simp only [concordatref01_Split.l0]
        rw [if_neg (by omega), if_neg (by omega)]
      · rw [List.drop_eq_nil_of_le (by rw [L_size]; omega), lns_nil, List.append_nil]
  | succ d ih =>
    intro i p out hd hp hi ho hno
    have hlt : i < s.size := by omega
    by_cases ht : bt s (i : Int) = 10
    · have h10 := (bt_ten hlt).1 ht
      obtain ⟨r, h1, h2⟩ := ih (i + 1) (i + 1) (out ++ [s.extract p (i + 1)]) (by omega) (Nat.le_refl _) (by omega) (by simp; omega) (fun q h h' => by omega)
      refine ⟨r, Ev.step (fun k => ?_) h1, ?_⟩
      · simp only [concordatref01_Split.l0]
        rw [if_pos (by omega), if_pos (by omega), if_pos ht, if_pos (by omega), w64s i (by omega), if_pos (by omega), if_pos (by omega), if_pos (by omega)]; rfl
      · rw [h2, List.map_append, List.append_assoc, List.map_cons, List.map_nil, L_extract]
        have hs2 : s.data.toList.drop p = (s.data.toList.drop p).take (i - p) ++ 10 :: s.data.toList.drop (i + 1) := by
          have e : (s.data.toList.drop p).drop (i - p) = 10 :: s.data.toList.drop (i + 1) := by
            rw [List.drop_drop, show p + (i - p) = i by omega]
            obtain ⟨hb, he⟩ := List.getElem?_eq_some_iff.1 h10
            rw [List.drop_eq_getElem_cons hb, he]
          rw [← e, List.take_append_drop]
        have hn : 10 ∉ (s.data.toList.drop p).take (i - p) := no_ten (fun q hq => by
          have hq1 : q < i - p := by
            rcases Nat.lt_or_ge q (i - p) with h | h
            · exact h
            · rw [List.getElem?_eq_none (by rw [List.length_take]; omega)] at hq; cases hq
          rw [List.getElem?_take_of_lt hq1, List.getElem?_drop] at hq
          exact hno (p + q) (by omega) (by omega) hq)
        have ht2 : (s.data.toList.drop p).take (i + 1 - p) = (s.data.toList.drop p).take (i - p) ++ [10] := by
          rw [show i + 1 - p = (i - p) + 1 by omega, List.take_add_one, List.getElem?_drop, show p + (i - p) = i by omega, h10]; rfl
        rw [ht2]
        conv => rhs; rw [hs2, lns_line _ _ hn]
        rfl
    · obtain ⟨r, h1, h2⟩ := ih (i + 1) p out (by omega) (by omega) (by omega) (by omega) (fun q h h' => by
        by_cases e : q = i
        · subst e; exact fun h => ht ((bt_ten hlt).2 h)
        · exact hno q h (by omega))
      refine ⟨r, Ev.step (fun k => ?_) h1, h2⟩
      simp only [concordatref01_Split.l0]
      rw [if_pos (by omega), if_pos (by omega), if_neg ht, w64s i (by omega)]
theorem ref_split (s : ByteArray) (hs : s.size ≤ 1000000) : ∃ r, Ev (fun k => concordatref01_Split.f k s) r ∧ r.map (·.data.toList) = lns s.data.toList := by
  obtain ⟨r, h1, h2⟩ := ref_split_loop s hs _ 0 0 [] rfl (Nat.le_refl _) (Nat.zero_le _) (Nat.zero_le _) (fun q h h' => by omega)
  exact ⟨r, h1, by simpa using h2⟩
theorem sum_flat (l : List ByteArray) : O.sumOf (fun s => s.size + 1) l = (l.map (·.data.toList)).flatten.length + l.length := by
  induction l with
  | nil => rfl
  | cons x l ih => rw [O.sumOf, ih, List.map_cons, List.flatten_cons, List.length_append, List.length_cons, L_size]; omega
theorem ref_join_loop (l : List ByteArray) (hl : l.length ≤ 1000000) (hs : (l.map (·.data.toList)).flatten.length ≤ 100000000) : ∀ (d i : Nat) (acc : ByteArray), l.length - i = d → i ≤ l.length → acc.data.toList = ((l.map (·.data.toList)).take i).flatten →
    ∃ r, Ev (fun k => concordatref01_Join.l0 k l acc (i : Int)) r ∧ r.data.toList = (l.map (·.data.toList)).flatten := by
  intro d
  induction d with
  | zero =>
    intro i acc hd hi ha
    refine ⟨acc, Ev.step (f := fun _ => some acc) (fun k => ?_) (Ev.now _), by rw [ha, List.take_of_length_le (by rw [List.length_map]; omega)]⟩
    simp only [concordatref01_Join.l0]; rw [if_neg (by omega)]
  | succ d ih =>
    intro i acc hd hi ha
    have hil : i < l.length := by omega
    have e : ((l.map (·.data.toList)).take (i + 1)).flatten = acc.data.toList ++ (l.getD i ByteArray.empty).data.toList := by
      rw [List.take_add_one, List.getElem?_map, List.getElem?_eq_getElem hil, List.flatten_append, ha, List.getD_eq_getElem?_getD, List.getElem?_eq_getElem hil]; simp
    have hle : ((l.map (·.data.toList)).take (i + 1)).flatten.length ≤ (l.map (·.data.toList)).flatten.length := by
      conv => rhs; rw [← List.take_append_drop (i + 1) (l.map (·.data.toList)), List.flatten_append, List.length_append]
      omega
    rw [e, List.length_append, L_size, L_size] at hle
    obtain ⟨r, h1, h2⟩ := ih (i + 1) (acc ++ l.getD i ByteArray.empty) (by omega) (by omega) (by rw [L_append, e])
    refine ⟨r, Ev.step (fun k => ?_) h1, h2⟩
    simp only [concordatref01_Join.l0]
    rw [if_pos (by omega), if_pos (by omega), if_pos (show acc.size + (rdOf ByteArray.empty l (i : Int)).size ≤ 9223372036854775807 from by show acc.size + (l.getD i ByteArray.empty).size ≤ _; omega), w64s i (by omega)]; rfl
theorem ref_whole (s : ByteArray) (hs : s.size ≤ 1000000) : ∃ r, concordatref01_Whole.f s = some r ∧ r.data.toList = (if Ended s.data.toList then s.data.toList else s.data.toList ++ [10]) := by
  unfold concordatref01_Whole.f
  by_cases hz : (s.size : Int) > 0
  · have hE : Ended s.data.toList ↔ bt s ((s.size : Int) - 1) = 10 := by
      rw [show (s.size : Int) - 1 = ((s.size - 1 : Nat) : Int) by omega, bt_ten (by omega)]
      constructor
      · rintro (h | h)
        · have := congrArg List.length h; rw [L_size] at this; have h9 : s.size = 0 := this; omega
        · rw [List.getLast?_eq_getElem?, L_size] at h; exact h
      · intro h; exact .inr (by rw [List.getLast?_eq_getElem?, L_size]; exact h)
    rw [if_pos hz, w64 (x := (s.size : Int) - 1) (by omega) (by omega), if_pos (by omega), if_pos (by omega)]
    by_cases hb : bt s ((s.size : Int) - 1) = 10
    · rw [if_pos hb, if_pos (hE.2 hb)]; exact ⟨s, rfl, rfl⟩
    · rw [if_neg hb, if_neg (fun h => hb (hE.1 h)), if_pos (by omega)]; exact ⟨_, rfl, L_append _ _⟩
  · have hE : Ended s.data.toList := .inl (List.length_eq_zero_iff.1 ((L_size s).trans (by omega)))
    rw [if_neg hz, if_pos hE]; exact ⟨s, rfl, rfl⟩
theorem LinesSplits (a : ByteArray) (l : List ByteArray) (_ : a.size ≤ 140737488351232) (_ : l.length * 16 ≤ 140737488351232 ∧ l.length ≤ maxLen ∧ ∀ x ∈ l, x.size ≤ 140737488351232) (hb : (a.size + 1) + (O.sumOf (fun s => s.size + 1) l + 1) ≤ 1048576) : ∃ k, concordatlaw01_LinesSplits.f k a l = some true := by
  refine Ev.rounds ?_
  refine Ev.bind awake_runs ?_
  have yes : Ev (fun k => concordatlaw01_LinesSplits.j0 k a l true) true := Ev.step (f := fun _ => some true) (fun k => by simp only [concordatlaw01_LinesSplits.j0]; rw [if_pos trivial]) (Ev.now _)
  by_cases g1 : (a.size : Int) > 5000
  · exact Ev.congr (fun k => by rw [if_pos rfl, if_pos g1]) yes
  by_cases g2 : (l.length : Int) > 200
  · exact Ev.congr (fun k => by rw [if_pos rfl, if_neg g1, decide_eq_true g2]) yes
  refine Ev.congr (f := fun k => concordatlaw01_LinesSplits.j0 k a l false) (fun k => by rw [if_pos rfl, if_neg g1, decide_eq_false g2]) ?_
  rw [sum_flat] at hb
  have hs : a.size ≤ 1000000 := by omega
  obtain ⟨R, hR, lR⟩ := ref_split a hs
  obtain ⟨r, h1, l1⟩ := split_is a hs
  obtain ⟨j, hj, lj⟩ := join_is l (by omega) (by omega)
  obtain ⟨j2, hj2, lj2⟩ := ref_join_loop l (by omega) (by omega) _ 0 (⟨#[]⟩ : ByteArray) rfl (Nat.zero_le _) rfl
  obtain ⟨w, hw, lw, _⟩ := whole_is a hs
  obtain ⟨w2, hw2, lw2⟩ := ref_whole a hs
  have hn : R.length = (lns a.data.toList).length := by rw [← lR, List.length_map]
  have m1 := lns_length a.data.toList
  rw [L_size] at m1
  have n1 : r.length = (lns a.data.toList).length := by rw [← l1, List.length_map]
  refine Ev.step (fun k => by simp only [concordatlaw01_LinesSplits.j0]; rw [if_neg (by decide)]) (Ev.bind hR ?_)
  refine Ev.congr (f := fun k => (concordatref01_Same.f k r R).bind fun t => if t = true then ((concordatref01_Join.f k l).bind fun u => if j.toList = u.toList then some true else none) else none) (fun k => ?_) (Ev.bind (same_runs r R (by rw [l1, lR]) (by omega)) (Ev.congr (fun k => if_pos rfl) (Ev.bind (a := j2) hj2 (Ev.congr (f := fun _ => some true) (fun k => by rw [if_pos (by rw [ByteArray.toList_eq, ByteArray.toList_eq, lj, lj2])]) (Ev.now _)))))
  rw [h1, count_is a hs, hj, hw, hw2]
  simp only [Option.bind_some]
  rw [if_pos (show ((lns a.data.toList).length : Int) = (R.length : Int) by omega)]
  simp only [ByteArray.toList_eq, lw, lw2, beq_self_eq_true]
end Go.Proofs.Ythgmnnlnggalgaa.Pure
