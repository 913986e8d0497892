/- What the functions that the law ReportParts reaches compute, and the law (part 5). -/
import Derived.Test.YtbhomjhhinfojaaDoorAlReportParts4
namespace Go.Proofs.AL
open Go Go.RowKit Go.Proofs.Tryd
set_option maxRecDepth 100000
set_option linter.unusedSimpArgs false
set_option linter.unusedVariables false
def plainS (s : ByteArray) : Prop := (10 : UInt8) ∉ s.data.toList
theorem plain_app {a b : ByteArray} : plainS (a ++ b) ↔ plainS a ∧ plainS b := by
  unfold plainS; rw [ByteArray.data_append]; simp
theorem line_of {b : ByteArray} (h : plainS b) : IsLine (b ++ nlS) := ⟨b, rfl, h⟩
theorem plain_show (k : Int) (a b : ByteArray) (ha : plainS a) (hb : plainS b) : plainS (showS k a b) := by
  unfold showS
  split
  · rename_i h
    have hw : plainS (wordsL.getD k.toNat .empty) := by
      rcases h with rfl | rfl | rfl <;> (unfold plainS; decide)
    rw [plain_app, plain_app, plain_app, plain_app]
    exact ⟨⟨⟨⟨hw, by unfold plainS; decide⟩, ha⟩, by unfold plainS; decide⟩, hb⟩
  · unfold plainS; decide
theorem plain_word (l : List ByteArray) (hl : ∀ x ∈ l, plainS x) (n : Int) : plainS (wordS l n) := by
  unfold wordS
  split
  · unfold plainS; decide
  · rename_i hn
    have h2 : n.toNat < l.length := by omega
    rw [List.getD_eq_getElem?_getD, List.getElem?_eq_getElem h2]
    exact hl _ (List.getElem_mem h2)
theorem plain_kinds (n : Int) : plainS (wordS kindsL n) := plain_word _ (by intro x hx; simp only [kindsL, List.mem_cons, List.not_mem_nil, or_false] at hx; rcases hx with rfl | rfl | rfl | rfl | rfl | rfl <;> (unfold plainS; decide)) n
theorem plain_outs (n : Int) : plainS (wordS outsL n) := plain_word _ (by intro x hx; simp only [outsL, List.mem_cons, List.not_mem_nil, or_false] at hx; rcases hx with rfl | rfl | rfl | rfl | rfl <;> (unfold plainS; decide)) n
theorem plain_conf (k : Int) (b : ByteArray) (hb : plainS b) : plainS (confS k b) := by
  unfold confS
  split
  · exact plain_kinds k
  · rw [plain_app, plain_app]
    exact ⟨⟨plain_kinds k, by unfold plainS; decide⟩, hb⟩
theorem line_rq (w : ByteArray) (hw : plainS w) (r : Rq) (h1 : plainS r.2.1) (h2 : plainS r.2.2) : IsLine (rqL w r) := line_of (by
  rw [plain_app, plain_app]
  exact ⟨⟨hw, by unfold plainS; decide⟩, plain_show _ _ _ h1 h2⟩)
theorem line_cf (c : Cf) (h : plainS c.2) : IsLine (cfL c) := line_of (by
  rw [plain_app, plain_app]
  exact ⟨⟨by unfold plainS; decide, by unfold plainS; decide⟩, plain_conf _ _ h⟩)
def linesS (k : Int) (a b : List Rq) (c : List Cf) : List ByteArray := headS k :: (a.map (rqL leftW) ++ (b.map (rqL rightW) ++ c.map cfL))
theorem text_cat (k : Int) (a b : List Rq) (c : List Cf) : textS k a b c = cat (linesS k a b c) := by
  unfold linesS textS
  rw [cat_cons, cat_app, cat_app]
  simp only [ByteArray.append_assoc]
theorem split_text (k : Int) (a b : List Rq) (c : List Cf) (ha : ∀ r ∈ a, plainS r.2.1 ∧ plainS r.2.2) (hb : ∀ r ∈ b, plainS r.2.1 ∧ plainS r.2.2) (hc : ∀ r ∈ c, plainS r.2) : splitS (textS k a b c) = linesS k a b c := by
  rw [text_cat]
  refine split_cat _ (fun x hx => ?_)
  simp only [linesS, List.mem_cons, List.mem_append, List.mem_map] at hx
  rcases hx with rfl | ⟨r, hr, rfl⟩ | ⟨r, hr, rfl⟩ | ⟨r, hr, rfl⟩
  · exact line_of (plain_outs k)
  · exact line_rq _ (by unfold plainS; decide) r (ha r hr).1 (ha r hr).2
  · exact line_rq _ (by unfold plainS; decide) r (hb r hr).1 (hb r hr).2
  · exact line_cf r (hc r hr)
theorem count_sum (l : List Cf) : cntK l 1 + cntK l 2 + cntK l 3 + cntK l 4 + cntK l 5 ≤ l.length := by
  induction l with
  | nil => simp [cntK]
  | cons x l ih =>
    have hx : ∀ j : Int, cntK (x :: l) j = (if x.1 = j then 1 else 0) + cntK l j := fun j => by
      unfold cntK
      rw [List.filter_cons]
      by_cases h : x.1 = j
      · simp [h]; omega
      · simp [h]
    rw [hx 1, hx 2, hx 3, hx 4, hx 5, List.length_cons]
    generalize x.1 = k at *
    repeat' split
    all_goals omega
/-- The texts that are looked at, one by one. -/
def bodyAt (a b : List Rq) (c : List Cf) (i : Nat) : ByteArray := if h : i < a.length then a[i].2.1 ++ a[i].2.2 else if h2 : i - a.length < b.length then b[i - a.length].2.1 ++ b[i - a.length].2.2 else (c.getD (i - a.length - b.length) (0, .empty)).2
def PpOk (a b : List Rq) (c : List Cf) (i : Nat) (_ : Nat) : Prop := i ≤ a.length + b.length + c.length ∧ ∀ j, j < i → plainS (bodyAt a b c j)
theorem body_all {a b : List Rq} {c : List Cf} (h : ∀ j, j < a.length + b.length + c.length → plainS (bodyAt a b c j)) : (∀ r ∈ a, plainS r.2.1 ∧ plainS r.2.2) ∧ (∀ r ∈ b, plainS r.2.1 ∧ plainS r.2.2) ∧ ∀ r ∈ c, plainS r.2 := by
  refine ⟨fun r hr => ?_, fun r hr => ?_, fun r hr => ?_⟩
  · obtain ⟨i, hi, rfl⟩ := List.mem_iff_getElem.1 hr
    have := h i (by omega)
    rw [bodyAt, dif_pos hi, plain_app] at this
    exact this
  · obtain ⟨i, hi, rfl⟩ := List.mem_iff_getElem.1 hr
    have := h (a.length + i) (by omega)
    have e : a.length + i - a.length = i := by omega
    rw [bodyAt, dif_neg (by omega), dif_pos (by omega), plain_app] at this
    simp only [e] at this
    exact this
  · obtain ⟨i, hi, rfl⟩ := List.mem_iff_getElem.1 hr
    have := h (a.length + b.length + i) (by omega)
    rw [bodyAt, dif_neg (by omega), dif_neg (by omega), show a.length + b.length + i - a.length - b.length = i by omega] at this
    simpa [hi] using this
theorem bodyAt_size {a b : List Rq} {c : List Cf} (ha : rqZ a) (hb : rqZ b) (hc : cfZ c) (i : Nat) : (bodyAt a b c i).size ≤ 4000000 := by
  unfold bodyAt
  split
  · rename_i h
    have := ha.2 _ (List.getElem_mem h)
    rw [ByteArray.size_append]; omega
  · split
    · rename_i h
      have := hb.2 _ (List.getElem_mem h)
      rw [ByteArray.size_append]; omega
    · rw [List.getD_eq_getElem?_getD]
      cases hq : c[i - a.length - b.length]? with
      | none => simp
      | some x =>
        have := hc.2 x (List.mem_of_getElem? hq)
        simp; omega
set_option maxHeartbeats 16000000 in
theorem reportParts_ok (aw : Awake) (a b : List Rq) (c : List Cf) (hz : ∀ r ∈ a, r.2.1.size ≤ 2000000 ∧ r.2.2.size ≤ 2000000) (hz2 : ∀ r ∈ b, r.2.1.size ≤ 2000000 ∧ r.2.2.size ≤ 2000000) (hz3 : ∀ r ∈ c, r.2.size ≤ 2000000) : ACall cx 6 [.sl 0 (rqs a), .sl 0 (rqs b), .sl 0 (cfs c)] (.bool true) none := by
  refine ACall.wpc (C := cx) T.func_6 (by kernel_rfl) rfl (by rfl) ?_
  simp [f6]
  refine callP_i aw ?_
  simp
  by_cases h1 : 30 < a.length
  · have h1' : (30 : Int) < a.length := by omega
    simp [h1']
  have h1' : ¬ (30 : Int) < a.length := by omega
  by_cases h2 : 30 < b.length
  · have h2' : (30 : Int) < b.length := by omega
    simp [h1', h2']
  have h2' : ¬ (30 : Int) < b.length := by omega
  by_cases h3 : 30 < c.length
  · have h3' : (30 : Int) < c.length := by omega
    simp [h1', h2', h3']
  have h3' : ¬ (30 : Int) < c.length := by omega
  simp [h1', h2', h3']
  have ha : rqZ a := ⟨by omega, hz⟩
  have hb : rqZ b := ⟨by omega, hz2⟩
  have hc : cfZ c := ⟨by omega, hz3⟩
  have w1 : IntKind.i64.wrap ((a.length : Int) + b.length) = (a.length : Int) + b.length := wrap64_in (by omega) (by omega)
  have w2 : IntKind.i64.wrap ((a.length : Int) + b.length + c.length) = (a.length : Int) + b.length + c.length := wrap64_in (by omega) (by omega)
  refine loopK [0, 1, 2] (PpOk a b c) (fun i => [(8, .int .i64 (i : Nat))]) (fun _ => []) (fun _ => []) (fun i => a.length + b.length + c.length - i) 0 ⟨by simp, fun j h => by omega⟩ (by simp) [] rfl (by simp) ?_
  rintro i nx g ⟨hi, hpl⟩ - -
  simp [w1, w2]
  by_cases h4 : i < a.length + b.length + c.length
  · have h4' : (i : Int) < (a.length : Int) + b.length + c.length := by omega
    have w : IntKind.i64.wrap ((i : Int) + 1) = ((i + 1 : Nat) : Int) := by rw [wrap64_in (by omega) (by omega)]; omega
    have hbs := bodyAt_size ha hb hc i
    have inner : ∀ (N : Nat), True := fun _ => trivial
    by_cases h5 : i < a.length
    · have h5' : (i : Int) < a.length := by omega
      have hzz := ha.2 _ (List.getElem_mem h5)
      obtain ⟨⟨x, y, z⟩, hx⟩ : ∃ x, x = a[i] := ⟨_, rfl⟩
      have hbd : bodyAt a b c i = y ++ z := by rw [bodyAt, dif_pos h5, ← hx]
      rw [← hx] at hzz
      dsimp only at hzz
      simp [h4', h5', h5, rqV, ← hx]
      refine ⟨by omega, by kernel_rfl, ?_⟩
      rw [← hbd]
      generalize hs : bodyAt a b c i = s at hbs
      refine loopK [0, 1, 2, 8, 9] (fun j _ => j ≤ s.size ∧ NoNlTo s j) (fun j => [(10, .int .i64 (j : Nat))]) (fun _ => []) (fun _ => []) (fun j => s.size - j) 0 ⟨by simp, fun j h => by omega⟩ (by simp) g (by simp) (by simp) ?_
      rintro j nx2 g2 ⟨hj, hno⟩ - -
      simp
      by_cases k4 : j < s.size
      · have wj : IntKind.i64.wrap ((j : Int) + 1) = ((j + 1 : Nat) : Int) := by rw [wrap64_in (by omega) (by omega)]; omega
        by_cases k5 : byteAt s j = 10
        · simp [k4, k5]
        · have k5b : (byteAt s j == 10) = false := by simp [k5]
          simp [k4, k5b]
          refine againK_i (j + 1) g2 ⟨k4, ?_⟩ (by omega) (by simp [wj]) (by simp) (by simp)
          intro q hq
          rcases Nat.lt_or_ge q j with h6 | h6
          · exact hno q h6
          · have : q = j := by omega
            subst this
            exact fun h => k5 ((nl_here k4).2 h)
      · have : j = s.size := by omega
        subst this
        simp
        refine againK_i (i + 1) g2 ⟨by omega, fun q hq => ?_⟩ (by omega) (by simp [w]) (by simp) (by simp)
        rcases Nat.lt_or_ge q i with h6 | h6
        · exact hpl q h6
        · have : q = i := by omega
          subst this
          rw [hs]
          exact (plain_iff s).1 hno
    · have h5' : ¬ (i : Int) < a.length := by omega
      by_cases h6 : i - a.length < b.length
      · have h6' : (i : Int) < (a.length : Int) + b.length := by omega
        have wq : IntKind.i64.wrap ((i : Int) - a.length) = ((i - a.length : Nat) : Int) := by rw [wrap64_in (by omega) (by omega)]; omega
        have hzz := hb.2 _ (List.getElem_mem h6)
        obtain ⟨⟨x, y, z⟩, hx⟩ : ∃ x, x = b[i - a.length] := ⟨_, rfl⟩
        have hbd : bodyAt a b c i = y ++ z := by rw [bodyAt, dif_neg h5, dif_pos h6, ← hx]
        rw [← hx] at hzz
        dsimp only at hzz
        generalize hq : i - a.length = q at h6 wq hx
        simp [h4', h5', h6', h6, w1, wq, rqV, ← hx]
        refine ⟨by omega, by kernel_rfl, ?_⟩
        rw [← hbd]
        generalize hs : bodyAt a b c i = s at hbs
        refine loopK [0, 1, 2, 8, 9] (fun j _ => j ≤ s.size ∧ NoNlTo s j) (fun j => [(10, .int .i64 (j : Nat))]) (fun _ => []) (fun _ => []) (fun j => s.size - j) 0 ⟨by simp, fun j h => by omega⟩ (by simp) g (by simp) (by simp) ?_
        rintro j nx2 g2 ⟨hj, hno⟩ - -
        simp
        by_cases k4 : j < s.size
        · have wj : IntKind.i64.wrap ((j : Int) + 1) = ((j + 1 : Nat) : Int) := by rw [wrap64_in (by omega) (by omega)]; omega
          by_cases k5 : byteAt s j = 10
          · simp [k4, k5]
          · have k5b : (byteAt s j == 10) = false := by simp [k5]
            simp [k4, k5b]
            refine againK_i (j + 1) g2 ⟨k4, ?_⟩ (by omega) (by simp [wj]) (by simp) (by simp)
            intro q hq
            rcases Nat.lt_or_ge q j with h6 | h6
            · exact hno q h6
            · have : q = j := by omega
              subst this
              exact fun h => k5 ((nl_here k4).2 h)
        · have : j = s.size := by omega
          subst this
          simp
          refine againK_i (i + 1) g2 ⟨by omega, fun q hq => ?_⟩ (by omega) (by simp [w]) (by simp) (by simp)
          rcases Nat.lt_or_ge q i with h6 | h6
          · exact hpl q h6
          · have : q = i := by omega
            subst this
            rw [hs]
            exact (plain_iff s).1 hno
      · have h6' : ¬ (i : Int) < (a.length : Int) + b.length := by omega
        have wq : IntKind.i64.wrap ((i : Int) - a.length) = ((i - a.length : Nat) : Int) := by rw [wrap64_in (by omega) (by omega)]; omega
        have wr : IntKind.i64.wrap (((i - a.length : Nat) : Int) - b.length) = ((i - a.length - b.length : Nat) : Int) := by rw [wrap64_in (by omega) (by omega)]; omega
        have h7 : i - a.length - b.length < c.length := by omega
        have hzz := hc.2 _ (List.getElem_mem h7)
        obtain ⟨⟨x, y⟩, hx⟩ : ∃ x, x = c[i - a.length - b.length] := ⟨_, rfl⟩
        have hbd : bodyAt a b c i = y := by rw [bodyAt, dif_neg h5, dif_neg h6, List.getD_eq_getElem?_getD, List.getElem?_eq_getElem h7, ← hx]; rfl
        rw [← hx] at hzz
        dsimp only at hzz
        generalize hq : i - a.length = q at h6 wq wr h7 hx
        generalize hr : q - b.length = r at wr h7 hx
        simp [h4', h5', h6', h7, w1, wq, wr, cfV, ← hx]
        rw [← hbd]
        generalize hs : bodyAt a b c i = s at hbs
        refine loopK [0, 1, 2, 8, 9] (fun j _ => j ≤ s.size ∧ NoNlTo s j) (fun j => [(10, .int .i64 (j : Nat))]) (fun _ => []) (fun _ => []) (fun j => s.size - j) 0 ⟨by simp, fun j h => by omega⟩ (by simp) g (by simp) (by simp) ?_
        rintro j nx2 g2 ⟨hj, hno⟩ - -
        simp
        by_cases k4 : j < s.size
        · have wj : IntKind.i64.wrap ((j : Int) + 1) = ((j + 1 : Nat) : Int) := by rw [wrap64_in (by omega) (by omega)]; omega
          by_cases k5 : byteAt s j = 10
          · simp [k4, k5]
          · have k5b : (byteAt s j == 10) = false := by simp [k5]
            simp [k4, k5b]
            refine againK_i (j + 1) g2 ⟨k4, ?_⟩ (by omega) (by simp [wj]) (by simp) (by simp)
            intro q hq
            rcases Nat.lt_or_ge q j with h6 | h6
            · exact hno q h6
            · have : q = j := by omega
              subst this
              exact fun h => k5 ((nl_here k4).2 h)
        · have : j = s.size := by omega
          subst this
          simp
          refine againK_i (i + 1) g2 ⟨by omega, fun q hq => ?_⟩ (by omega) (by simp [w]) (by simp) (by simp)
          rcases Nat.lt_or_ge q i with h6 | h6
          · exact hpl q h6
          · have : q = i := by omega
            subst this
            rw [hs]
            exact (plain_iff s).1 hno
  · have h4' : ¬ (i : Int) < (a.length : Int) + b.length + c.length := by omega
    have : i = a.length + b.length + c.length := by omega
    subst this
    obtain ⟨p1, p2, p3⟩ := body_all hpl
    have hst := split_text 1 a b c p1 p2 p3
    have hh : (headS 1).size ≤ 100 := by decide +kernel
    have sz : (textS 1 a b c).size ≤ 1000000000 := by
      have s1 := part_size leftW (by decide) a ha a.length
      have s2 := part_size rightW (by decide) b hb b.length
      have s3 := partc_size c hc c.length
      rw [take_all] at s1 s2 s3
      unfold textS
      rw [ByteArray.size_append, ByteArray.size_append, ByteArray.size_append]
      omega
    simp [h4']
    refine callP_i (text_ok 1 a b c ha hb hc) ?_
    simp
    refine callP_i (split_ok (textS 1 a b c) sz) ?_
    rw [hst]
    simp
    refine callP_i (text_ok 1 [] [] [] ⟨by simp, by simp⟩ ⟨by simp, by simp⟩ ⟨by simp, by simp⟩) ?_
    simp
    refine callP_i (count_ok c (by omega)) ?_
    simp
    have hcl := fun j => cntK_le c c.length j
    simp only [List.take_length] at hcl
    have hel : ∀ x ∈ countS c, 0 ≤ x ∧ x ≤ 30 := by
      intro x hx
      have h0 : (c.length : Int) ≤ 30 := by omega
      simp only [countS, List.mem_cons, List.not_mem_nil, or_false] at hx
      rcases hx with rfl | rfl | rfl | rfl | rfl <;> (have h1 := hcl 1; have h2 := hcl 2; have h3 := hcl 3; have h4 := hcl 4; have h5 := hcl 5; omega)
    have hlen : (countS c).length = 5 := rfl
    have hsum : (countS c).sum ≤ c.length := by
      have := count_sum c
      simp [countS]; omega
    generalize countS c = n at hel hlen hsum
    refine loopK [0, 1, 2, 11, 12, 14] (fun i _ => i ≤ n.length ∧ 0 ≤ (n.take i).sum ∧ (n.take i).sum ≤ 30 * i) (fun i => [(15, .int .i64 (i : Nat)), (13, .int .i64 (n.take i).sum)]) (fun _ => []) (fun _ => []) (fun i => n.length - i) 0 ⟨by simp, by simp, by simp⟩ (by simp) g (by simp) (by simp) ?_
    rintro i nx2 g2 ⟨hi, s1, s2⟩ - -
    simp
    by_cases k4 : i < n.length
    · have w : IntKind.i64.wrap ((i : Int) + 1) = ((i + 1 : Nat) : Int) := by rw [wrap64_in (by omega) (by omega)]; omega
      have hx := hel _ (List.getElem_mem k4)
      have hs : (n.take (i + 1)).sum = (n.take i).sum + n[i] := by rw [List.take_succ_eq_append_getElem k4, List.sum_append]; simp
      have w2 : IntKind.i64.wrap ((n.take i).sum + n[i]) = (n.take i).sum + n[i] := wrap64_in (by omega) (by omega)
      simp [k4]
      exact againK_i (i + 1) g2 ⟨k4, by rw [hs]; omega, by rw [hs]; omega⟩ (by omega) (by simp [w, w2, hs]) (by simp) (by simp)
    · have : i = n.length := by omega
      subst this
      rw [List.take_length]
      have wl : IntKind.i64.wrap (1 + (a.length : Int)) = 1 + (a.length : Int) := wrap64_in (by omega) (by omega)
      have wl2 : IntKind.i64.wrap (1 + (a.length : Int) + b.length) = 1 + (a.length : Int) + b.length := wrap64_in (by omega) (by omega)
      have wl3 : IntKind.i64.wrap (1 + (a.length : Int) + b.length + c.length) = 1 + (a.length : Int) + b.length + c.length := wrap64_in (by omega) (by omega)
      have hll : ((linesS 1 a b c).length : Int) = 1 + (a.length : Int) + b.length + c.length := by simp [linesS]; omega
      have h0 : textS 1 [] [] [] = headS 1 := by simp [textS, cat]
      have hl0 : (linesS 1 a b c)[0]?.getD .empty = headS 1 := rfl
      simp [wl, wl2, wl3, hll, hlen, hsum, hl0, h0]
      omega
end Go.Proofs.AL
namespace Go.Proofs.AL
open Go Go.RowKit Go.Proofs.YtbhomjhhinfojaaDoor
set_option linter.unusedVariables false
set_option linter.unusedSimpArgs false
/-! ## What a law's argument reads as -/
/-- All cells of a block. -/
def mAll (w : World) : Nat → Nat := fun b => match w.heap[b]? with
  | some (.cells c _ _) => c.size
  | _ => 0
theorem mAll_end (w : World) (b : Nat) (h : w.heap.size ≤ b) : mAll w b = 0 := by
  unfold mAll
  rw [Array.getElem?_eq_none h]
theorem mAll_cell {w : World} {b o : Nat} {v : Value} (h : w.cell? ⟨b, o, none⟩ = some v) : o < mAll w b := by
  unfold World.cell? at h
  unfold mAll
  cases hb : w.heap[b]? with
  | none => rw [hb] at h; cases h
  | some ob =>
    rw [hb] at h
    cases ob with
    | cells c T q => exact (Array.getElem?_eq_some_iff.1 h).1
    | _ => cases h
theorem spot_none {w : World} {a : Addr} {v : Value} (h : w.cell? a = some v) : a.spot = none := by
  unfold World.cell? at h
  split at h
  · split at h
    · cases h
    · rename_i hs
      cases hsp : a.spot with
      | none => rfl
      | some _ => rw [hsp] at hs; exact absurd rfl hs
  · cases h
/-- Whatever reads as data of type t is a value with these cells, of a size that the datum tells, and as the reach allows. -/
def ToldAt {α : Type} (P : Program) (t : TypeId) (cells : α → List AV) (sz : α → Nat) (ok : α → Prop) (fuel : Nat) : Prop :=
  ∀ {H : Type} {enc : TypeId × Value → H} {w : World} {held : Bool} {cs : List Value} {z : DataW H × List MemPlace},
    DataW.trod enc P w 0 (fun _ => true) held fuel t cs = some z → (∀ q ∈ DataW.weights P t z.1, q ≤ 140737488351232) → ∃ x, VL (gh1 (mAll w)) w (cells x) cs ∧ ok x ∧ sz x ≤ Rows.uptoBulk z.1
def Told {α : Type} (P : Program) (t : TypeId) (cells : α → List AV) (sz : α → Nat) (ok : α → Prop) : Prop := ∀ fuel, ToldAt P t cells sz ok fuel
theorem mapM_get {α β : Type} {f : α → Option β} : ∀ {l : List α} {xs : List β}, l.mapM f = some xs → xs.length = l.length ∧ ∀ (i : Nat) (a : α), l[i]? = some a → f a = xs[i]? := by
  intro l
  induction l with
  | nil => intro xs h; rw [List.mapM_nil] at h; cases h; exact ⟨rfl, fun i a hi => by simp at hi⟩
  | cons b l ih =>
    intro xs h
    rw [List.mapM_cons] at h
    cases hy : f b with
    | none => rw [hy] at h; cases h
    | some y =>
      rw [hy] at h
      cases hys : l.mapM f with
      | none => rw [hys] at h; cases h
      | some ys =>
        rw [hys] at h
        cases h
        obtain ⟨hl, hg⟩ := ih hys
        refine ⟨by rw [List.length_cons, List.length_cons, hl], fun i a hi => ?_⟩
        cases i with
        | zero => rw [List.getElem?_cons_zero] at hi ⊢; injection hi with hi; subst hi; exact hy
        | succ i => rw [List.getElem?_cons_succ] at hi ⊢; exact hg i a hi
theorem cells_at {w : World} {base : Nat} {a : Addr} {n : Nat} {cs : List Value} (h : w.cells? base a n = some cs) : cs.length = n ∧ ∀ i u, cs[i]? = some u → w.cell? (a.add i) = some u := by
  unfold World.cells? at h
  split at h
  · obtain ⟨hl, hg⟩ := mapM_get h
    rw [List.length_range] at hl
    refine ⟨hl, fun i u hi => ?_⟩
    have hlt : i < n := by
      rcases Nat.lt_or_ge i n with h1 | h1
      · exact h1
      · rw [List.getElem?_eq_none (by omega)] at hi; cases hi
    rw [hg i i (by rw [List.getElem?_range hlt])]; exact hi
  · cases h
theorem bulk_one {H : Type} (d : DataW H) : 1 ≤ Rows.uptoBulk d := by
  cases d with
  | lit l => cases l <;> simp [Rows.uptoBulk]
  | nil => simp [Rows.uptoBulk]
  | ptr d => simp [Rows.uptoBulk]
  | slice elems spare => simp [Rows.uptoBulk]
  | agg parts => simp [Rows.uptoBulk]
  | iface u d => simp [Rows.uptoBulk]
  | map entries => simp [Rows.uptoBulk]
  | held t => simp [Rows.uptoBulk]
theorem told_int {P : Program} {t : TypeId} {k : IntKind} (hu : P.underlying t = some (.int k)) : Told P t (fun x : Int => [.int k x]) (fun _ => 1) (fun x => (Lit.int k x).wf = true) := by
  intro fuel H enc w held cs z h _
  obtain ⟨n, rfl, rfl, hw⟩ := DataW.trod_int hu h
  exact ⟨n, .cons (.int k n) rfl .nil, hw, bulk_one _⟩
theorem told_bool {P : Program} {t : TypeId} (hu : P.underlying t = some .bool) : Told P t (fun x : Bool => [.bool x]) (fun _ => 1) (fun _ => True) := by
  intro fuel H enc w held cs z h _
  obtain ⟨n, rfl, rfl⟩ := DataW.trod_bool hu h
  exact ⟨n, .cons (.bool n) rfl .nil, trivial, bulk_one _⟩
theorem told_string {P : Program} {t : TypeId} (hu : P.underlying t = some .string) : Told P t (fun s : ByteArray => [.str s]) (fun s => s.size + 1) (fun s => s.size ≤ 140737488351232) := by
  intro fuel H enc w held cs z h hq
  obtain ⟨s, rfl, rfl, hs⟩ := DataW.trod_string hu h
  refine ⟨s, .cons (.str s) rfl .nil, ?_, ?_⟩
  · have := hq s.data.toList.length (by simp [DataW.weights])
    simpa using this
  · simp [Rows.uptoBulk]
def sumOf {α : Type} (sz : α → Nat) : List α → Nat
  | [] => 0
  | x :: l => sz x + sumOf sz l
theorem sumOf_le {α : Type} (sz : α → Nat) {l : List α} {x : α} (h : x ∈ l) : sz x ≤ sumOf sz l := by
  induction l with
  | nil => cases h
  | cons y l ih =>
    rw [sumOf]
    cases h with
    | head => exact Nat.le_add_right _ _
    | tail _ h => exact Nat.le_trans (ih h) (Nat.le_add_left _ _)
theorem rows_told {α : Type} {P : Program} {e : TypeId} {cells : α → List AV} {sz : α → Nat} {ok : α → Prop} {n : Nat} (ht : ToldAt P e cells sz ok n) {H : Type} {enc : TypeId × Value → H} {w : World} {held : Bool} (get : Nat → Option (List Value)) :
    ∀ (elems : List (DataW H × List MemPlace)) (k : Nat), (∀ i, i < elems.length → (get (k + i)).bind (DataW.trod enc P w 0 (fun _ => true) held n e) = elems[i]?) → (∀ q ∈ DataW.weightsAll P e (elems.map (·.1)), q ≤ 140737488351232) →
    ∃ l : List α, l.length = elems.length ∧ (∀ i x, l[i]? = some x → ∃ cs, get (k + i) = some cs ∧ VL (gh1 (mAll w)) w (cells x) cs) ∧ (∀ x ∈ l, ok x) ∧ sumOf sz l ≤ Rows.uptoBulkAll (elems.map (·.1)) := by
  intro elems
  induction elems with
  | nil => intro k _ _; exact ⟨[], rfl, (fun i x hi => (by simp at hi)), (fun x hx => (by cases hx)), Nat.zero_le _⟩
  | cons y elems ih =>
    intro k h hq
    rw [List.map_cons, DataW.weightsAll] at hq
    have h0 := h 0 (by simp)
    rw [List.getElem?_cons_zero, Nat.add_zero] at h0
    cases hc : get k with
    | none => rw [hc] at h0; cases h0
    | some cs =>
      rw [hc] at h0
      obtain ⟨x, hx, hox, hsx⟩ := ht h0 (fun q hm => hq q (List.mem_append_left _ hm))
      obtain ⟨l, hl, hg, ho, hs⟩ := ih (k + 1) (fun i hi => by
        have := h (i + 1) (by rw [List.length_cons]; omega)
        rw [List.getElem?_cons_succ] at this
        rw [← this, show k + 1 + i = k + (i + 1) by omega]) (fun q hm => hq q (List.mem_append_right _ hm))
      refine ⟨x :: l, by rw [List.length_cons, List.length_cons, hl], fun i u hi => ?_, fun u hu => ?_, ?_⟩
      · cases i with
        | zero => rw [List.getElem?_cons_zero] at hi; injection hi with hi; subst hi; exact ⟨cs, hc, hx⟩
        | succ i => rw [List.getElem?_cons_succ] at hi; obtain ⟨c, h1, h2⟩ := hg i u hi; exact ⟨c, by rw [show k + (i + 1) = k + 1 + i by omega]; exact h1, h2⟩
      · cases hu with
        | head => exact hox
        | tail _ hu => exact ho u hu
      · rw [sumOf, List.map_cons, Rows.uptoBulkAll]; omega
/-- A slice: c: how many cells an element has; B: how many bytes. -/
theorem told_slice_at {α : Type} {P : Program} {t e : TypeId} {cells : α → List AV} {sz : α → Nat} {ok : α → Prop} (c B : Nat) (hc0 : 0 < c) (hu : P.underlying t = some (.slice e)) (hc : P.cellsOf e = c) (hb : P.bytesOf e = B) (hcl : ∀ x, (cells x).length = c) (fuel : Nat) (he : ∀ n, n < fuel → ToldAt P e cells sz ok n) :
    ToldAt P t (fun l : List α => [.sl 0 (l.map cells)]) (fun l => sumOf sz l + 1) (fun l => l.length * B ≤ 140737488351232 ∧ ∀ x ∈ l, ok x) fuel := by
  intro H enc w held cs z h hq
  rcases DataW.trod_slice hu h with ⟨rfl, rfl⟩ | ⟨a, len, cap, elems, rest, n, rfl, rfl, rfl, _, hlc, hcm, hlen, hel, _, _⟩
  · exact ⟨[], .cons (.sl0 (.inl rfl)) rfl .nil, ⟨by simp, (fun x hx => (by cases hx))⟩, bulk_one _⟩
  · simp only [DataW.weights, hu] at hq
    obtain ⟨l, hl, hg, ho, hs⟩ := rows_told (he n (Nat.lt_succ_self n)) (H := H) (enc := enc) (w := w) (held := held) (fun i => w.cells? 0 (a.add (i * P.cellsOf e)) (P.cellsOf e)) elems 0
      (fun i hi => by rw [Nat.zero_add]; exact hel i (by omega)) (fun q hm => hq q (List.mem_cons_of_mem _ (List.mem_append_left _ hm)))
    have hll : l.length = len := by omega
    refine ⟨l, .cons ?_ rfl .nil, ⟨?_, ho⟩, ?_⟩
    · rcases Nat.eq_zero_or_pos l.length with h0 | h0
      · have hnil : l = [] := List.eq_nil_of_length_eq_zero h0
        subst hnil
        have : len = 0 := by omega
        subst this
        exact .sl0 (.inl rfl)
      · have key : ∀ (j i : Nat) (el : List AV) (x : AV), (l.map cells)[j]? = some el → el[i]? = some x → ∃ u, w.cell? ⟨a.block, a.off + (j * c + i), none⟩ = some u ∧ u.oneCell' = true ∧ V (gh1 (mAll w)) w x u ∧ a.spot = none := by
          intro j i el x hj hi
          rw [List.getElem?_map] at hj
          obtain ⟨p, hp, rfl⟩ := Option.map_eq_some_iff.1 hj
          obtain ⟨cs, h1, h2⟩ := hg j p hp
          rw [Nat.zero_add] at h1
          obtain ⟨g1, g2⟩ := cells_at h1
          have hil : i < cs.length := by have := (List.getElem?_eq_some_iff.1 hi).1; rw [h2.1] at this; exact this
          obtain ⟨v1, v2⟩ := h2.2 i x cs[i] hi (List.getElem?_eq_getElem hil)
          have hcell := g2 i cs[i] (List.getElem?_eq_getElem hil)
          rw [hc, Addr.add_add] at hcell
          have hsp := spot_none hcell
          by_cases h00 : j * c + i = 0
          · have e0 : a.add (j * c + i) = a := by unfold Addr.add; rw [if_pos h00]
            rw [e0] at hcell hsp
            have ea : (⟨a.block, a.off + (j * c + i), none⟩ : Addr) = a := by rw [h00, Nat.add_zero, ← hsp]
            exact ⟨_, by rw [ea]; exact hcell, v2, v1, hsp⟩
          · have e0 : a.add (j * c + i) = ⟨a.block, a.off + (j * c + i), none⟩ := by unfold Addr.add; rw [if_neg h00]
            rw [e0] at hcell
            have h0' : 0 < l.length := h0
            -- the row's own place: of its first cell
            have hp0 : l[0]? = some l[0] := List.getElem?_eq_getElem h0'
            obtain ⟨cs0, k1, k2⟩ := hg 0 _ hp0
            obtain ⟨q1, q2⟩ := cells_at k1
            have hl0 : 0 < cs0.length := by rw [q1, hc]; exact hc0
            have hz := q2 0 _ (List.getElem?_eq_getElem hl0)
            have ez : (a.add ((0 + 0) * P.cellsOf e)).add 0 = a := by unfold Addr.add; simp
            rw [ez] at hz
            exact ⟨_, hcell, v2, v1, spot_none hz⟩
        have hsp : a.spot = none := by
          have hel0 : (l.map cells)[0]? = some (cells l[0]) := by rw [List.getElem?_map, List.getElem?_eq_getElem h0]; rfl
          have hc1 : 0 < (cells l[0]).length := by rw [hcl]; exact hc0
          obtain ⟨_, _, _, _, h4⟩ := key 0 0 _ _ hel0 (List.getElem?_eq_getElem hc1)
          exact h4
        have ea : a = ⟨a.block, a.off, none⟩ := by cases a; simp at hsp; subst hsp; rfl
        rw [ea]
        refine .sl (sz := c) (fun j i => (w.cell? ⟨a.block, a.off + (j * c + i), none⟩).getD undef) (by omega) (by simp; omega) hlc hcm hc0 (fun el hel => ?_) (.inl rfl) (fun j i el x hj hi => ?_) (fun j i el x hj hi => ?_)
        · obtain ⟨p, _, rfl⟩ := List.mem_map.1 hel
          exact hcl p
        · obtain ⟨u, h1, h2, h3, _⟩ := key j i el x hj hi
          exact ⟨mAll_cell h1, by rw [h1]; rfl, by rw [h1]; exact h2⟩
        · obtain ⟨u, h1, h2, h3, _⟩ := key j i el x hj hi
          rw [h1]; exact h3
    · have := hq ((elems.length + rest.length) * P.bytesOf e) (by simp)
      rw [hb] at this
      rw [hl]
      exact Nat.le_trans (Nat.mul_le_mul_right _ (Nat.le_add_right _ _)) this
    · simp only [Rows.uptoBulk]; omega
theorem told_slice {α : Type} {P : Program} {t e : TypeId} {cells : α → List AV} {sz : α → Nat} {ok : α → Prop} (c B : Nat) (hc0 : 0 < c) (hu : P.underlying t = some (.slice e)) (hc : P.cellsOf e = c) (hb : P.bytesOf e = B) (hcl : ∀ x, (cells x).length = c) (he : Told P e cells sz ok) :
    Told P t (fun l : List α => [.sl 0 (l.map cells)]) (fun l => sumOf sz l + 1) (fun l => l.length * B ≤ 140737488351232 ∧ ∀ x ∈ l, ok x) := fun fuel => told_slice_at c B hc0 hu hc hb hcl fuel (fun n _ => he n)
theorem ToldAt.map {α β : Type} {P : Program} {t : TypeId} {cells : α → List AV} {sz : α → Nat} {ok : α → Prop} {fuel : Nat} (h : ToldAt P t cells sz ok fuel) {cells' : β → List AV} {sz' : β → Nat} {ok' : β → Prop} (f : α → β) (h1 : ∀ x, cells' (f x) = cells x) (h2 : ∀ x, sz' (f x) ≤ sz x) (h3 : ∀ x, ok x → ok' (f x)) : ToldAt P t cells' sz' ok' fuel := by
  intro H enc w held cs z h' hq
  obtain ⟨x, a, b, c⟩ := h h' hq
  exact ⟨f x, by rw [h1]; exact a, h3 x b, Nat.le_trans (h2 x) c⟩
/-- A field's part of a struct's cells. -/
theorem told_field {α : Type} {P : Program} {t : TypeId} {cells : α → List AV} {sz : α → Nat} {ok : α → Prop} {n : Nat} (ht : ToldAt P t cells sz ok n) {H : Type} {enc : TypeId × Value → H} {w : World} {held : Bool} {cs : List Value} {off k : Nat} {y : DataW H × List MemPlace} (hk : P.cellsOf t = k)
    (h : DataW.trod enc P w 0 (fun _ => true) held n t ((cs.drop off).take (P.cellsOf t)) = some y) (hq : ∀ q ∈ DataW.weights P t y.1, q ≤ 140737488351232) : ∃ x, VL (gh1 (mAll w)) w (cells x) ((cs.drop off).take k) ∧ ok x ∧ sz x ≤ Rows.uptoBulk y.1 := by
  rw [hk] at h
  exact ht h hq
/-- An argument, by its reading and its weights. -/
theorem told_arg {α : Type} {P : Program} {t : TypeId} {cells : α → List AV} {sz : α → Nat} {ok : α → Prop} (ht : Told P t cells sz ok) {H : Type} {enc : TypeId × Value → H} {w : World} {held : Bool} {ts : List TypeId} {ds : List (DataW H)} {j : Nat} {v : Value} {z : DataW H} {ps : List MemPlace}
    (h : DataW.Trod enc P w 0 (fun _ => true) held t v z ps) (hsz : (DataW.weightsEach P ts ds).all (· ≤ reachBytes) = true) (hj : ts[j]? = some t) (hd : ds[j]? = some z) : ∃ x, VL (gh1 (mAll w)) w (cells x) v.cells.toList ∧ ok x ∧ sz x ≤ Rows.uptoBulk z := by
  obtain ⟨fuel, hf⟩ := h
  obtain ⟨x, h1, h2, h3⟩ := ht fuel hf (fun q hq => by
    have := List.all_eq_true.1 hsz q (DataW.weights_mem_each hj hd q hq)
    exact of_decide_eq_true this)
  exact ⟨x, h1, h2, h3⟩
theorem vl_one {G : Gh} {w : World} {x : AV} {v : Value} (h : VL G w [x] v.cells.toList) (hn : ∀ cs, v ≠ .agg cs) : V G w x v := by
  cases v with
  | agg cs => exact absurd rfl (hn cs)
  | _ => exact (h.2 0 _ _ rfl rfl).1
theorem vl_struct {G : Gh} {w : World} {xs : List AV} {v : Value} (h : VL G w xs v.cells.toList) (hn : xs.length ≠ 1) : V G w (.agg xs) v := by
  cases v with
  | agg cs => exact VL.agg h
  | _ => exact absurd h.1 hn
theorem vl_agg {G : Gh} {w : World} {xs : List AV} {cs : Array Value} (h : VL G w xs (Value.agg cs).cells.toList) : V G w (.agg xs) (.agg cs) := VL.agg h
/-- The law's call: true, and what there was is as it was. -/
theorem law_calls {C : Cx} {f : FuncId} {args : List AV} (h : ACall C f args (.bool true) none) {W : World} {vs : Array Value} (hgi : C.GI (mAll W) W) (hl : vs.size = args.length) (hV : ∀ (i : Nat) (x : AV) (v : Value), args[i]? = some x → vs[i]? = some v → V (gh1 (mAll W)) W x v) :
    Calls C.P f vs W fun e w' => e = .returned (.bool true) ∧ Below W.heap.size W w' :=
  (h.2 (mAll W) W vs hgi (fun b hb => mAll_end W b hb) hl hV).mono (fun e w' ⟨v, m', he, hb, _, _, hv, _⟩ => ⟨by rw [he]; cases hv; rfl, hb⟩)
end Go.Proofs.AL
namespace Go.Proofs.AL
open Go Go.RowKit Go.Proofs.Tryd Go.Proofs.YtbhomjhhinfojaaDoor
set_option maxRecDepth 100000
set_option linter.unusedVariables false
def iok (n : Int) : Prop := (Lit.int .i64 n).wf = true
theorem told_rq : Told prog 33 (fun q : Rq => rqV q) (fun q => q.2.1.size + q.2.2.size + 1) (fun q => iok q.1 ∧ q.2.1.size ≤ 140737488351232 ∧ q.2.2.size ≤ 140737488351232) := by
  intro fuel H enc w held cs z h hq
  obtain ⟨xs, n, rfl, rfl, hl, hlen, hf⟩ := DataW.trod_struct Tryd.underlying33 h
  have et : prog.cellsOf 33 = 3 := by kernel_rfl
  rw [et] at hl
  simp only [DataW.weights, Tryd.underlying33] at hq
  match cs, hl with
  | [v0, v1, v2], _ =>
    match xs, hlen with
    | [y0, y1, y2], _ =>
      simp only [List.map_cons, List.map_nil, DataW.weightsEach, List.append_nil] at hq
      obtain ⟨x0, g0, o0, s0⟩ := told_field ((@told_int prog 3 .i64 Tryd.underlying3) n) (k := 1) (off := 0) (by kernel_rfl) (hf 0 _ rfl) (fun q hm => hq q (by simp [hm]))
      obtain ⟨x1, g1, o1, s1⟩ := told_field ((@told_string prog 9 Tryd.underlying9) n) (k := 1) (off := 1) (by kernel_rfl) (hf 1 _ rfl) (fun q hm => hq q (by simp [hm]))
      obtain ⟨x2, g2, o2, s2⟩ := told_field ((@told_string prog 9 Tryd.underlying9) n) (k := 1) (off := 2) (by kernel_rfl) (hf 2 _ rfl) (fun q hm => hq q (by simp [hm]))
      refine ⟨(x0, x1, x2), ?_, ⟨o0, o1, o2⟩, ?_⟩
      · have := ((g0.append g1).append g2)
        simpa [rqV] using this
      · simp only [Rows.uptoBulk, List.map_cons, List.map_nil, Rows.uptoBulkAll]
        first | omega | (simp; omega)
theorem told_cf : Told prog 23 (fun q : Cf => cfV q) (fun q => q.2.size + 1) (fun q => iok q.1 ∧ q.2.size ≤ 140737488351232) := by
  intro fuel H enc w held cs z h hq
  obtain ⟨xs, n, rfl, rfl, hl, hlen, hf⟩ := DataW.trod_struct Tryd.underlying23 h
  have et : prog.cellsOf 23 = 2 := by kernel_rfl
  rw [et] at hl
  simp only [DataW.weights, Tryd.underlying23] at hq
  match cs, hl with
  | [v0, v1], _ =>
    match xs, hlen with
    | [y0, y1], _ =>
      simp only [List.map_cons, List.map_nil, DataW.weightsEach, List.append_nil] at hq
      obtain ⟨x0, g0, o0, s0⟩ := told_field ((@told_int prog 3 .i64 Tryd.underlying3) n) (k := 1) (off := 0) (by kernel_rfl) (hf 0 _ rfl) (fun q hm => hq q (by simp [hm]))
      obtain ⟨x1, g1, o1, s1⟩ := told_field ((@told_string prog 9 Tryd.underlying9) n) (k := 1) (off := 1) (by kernel_rfl) (hf 1 _ rfl) (fun q hm => hq q (by simp [hm]))
      refine ⟨(x0, x1), ?_, ⟨o0, o1⟩, ?_⟩
      · have := (g0.append g1)
        simpa [cfV] using this
      · simp only [Rows.uptoBulk, List.map_cons, List.map_nil, Rows.uptoBulkAll]
        first | omega | (simp; omega)
theorem rqsz_of (l : List Rq) (h : sumOf (fun q : Rq => q.2.1.size + q.2.2.size + 1) l ≤ 1048576) : ∀ r ∈ l, r.2.1.size ≤ 2000000 ∧ r.2.2.size ≤ 2000000 := fun r hr => by
  have := sumOf_le (fun q : Rq => q.2.1.size + q.2.2.size + 1) hr
  omega
theorem cfsz_of (l : List Cf) (h : sumOf (fun q : Cf => q.2.size + 1) l ≤ 1048576) : ∀ r ∈ l, r.2.size ≤ 2000000 := fun r hr => by
  have := sumOf_le (fun q : Cf => q.2.size + 1) hr
  omega
end Go.Proofs.AL
namespace Go.Proofs.AL
open Go Go.RowKit Go.ChangeShapes Go.WideShapes Go.ChangeAt Go.Proofs.YtbhomjhhinfojaaDoor
/-! ### what the package's variables hold, out of the row's condition -/
def strData {H : Type} (l : List ByteArray) : DataW H := .agg (l.map fun s => .lit (.string s.data.toList))
theorem cells_of_strs {H : Type} {enc : TypeId × Value → H} {P : Program} {w : World} {base : Nat} {sp : Nat → Bool} {held : Bool} {fuel : Nat} {t e : TypeId} {n : Nat} {cs : List Value} {zs : List ByteArray} {p : List MemPlace}
    (ht : P.underlying t = some (.array n e)) (he : P.underlying e = some .string) (hce : P.cellsOf e = 1) (hct : P.cellsOf t = n)
    (h : DataW.trod enc P w base sp held fuel t cs = some (strData zs, p)) : cs = zs.map fun z => Value.string z := by
  cases fuel with
  | zero => simp [DataW.trod] at h
  | succ fuel =>
    simp only [DataW.trod, ht, hce, hct, Nat.mul_one] at h
    split at h
    · rename_i hl
      obtain ⟨xs, hm, hx⟩ := Option.map_eq_some_iff.1 h
      have hxs : xs.map (·.1) = zs.map fun z => (DataW.lit (.string z.data.toList) : DataW H) := by
        have := congrArg Prod.fst hx
        simpa [strData] using this
      have hxl : xs.length = n := by simpa using Lib.mapM_length hm
      have hzl : zs.length = n := by
        have := congrArg List.length hxs
        simp at this
        omega
      apply List.ext_getElem?
      intro i
      by_cases hi : i < n
      · obtain ⟨b, hb, hf⟩ := Lib.mapM_at hm i i (by simp [hi])
        obtain ⟨z, hc, rfl, _⟩ := DataW.trod_string he hf
        have h1 : cs[i]? = some (.string z) := by
          have := congrArg (·[0]?) hc
          simpa [List.getElem?_take, List.getElem?_drop] using this
        have h2 : (xs.map (·.1))[i]? = some (DataW.lit (.string z.data.toList) : DataW H) := by simp [hb]
        rw [hxs] at h2
        simp only [List.getElem?_map, Option.map_eq_some_iff, DataW.lit.injEq, Lit.string.injEq] at h2
        obtain ⟨z', hz', hzz⟩ := h2
        have : z' = z := ba_toList_inj hzz
        subst this
        simp [h1, hz']
      · rw [List.getElem?_eq_none (by omega), List.getElem?_eq_none (by simp; omega)]
    · cases h
theorem glob_of_var {W : World} {nm : String} {g : Nat} {l : List ByteArray} {cs : Array Value} (hg : Tryd.prog.globalNamed nm = some g) (hv : W.var? Tryd.prog nm = some cs) (hc : cs.toList = l.map fun z => Value.string z) (hl : l ≠ []) : GlobAt (mAll W) W g l := by
  unfold World.var? at hv
  rw [hg, Option.bind_some] at hv
  cases hq : W.heap[g]? with
  | none => rw [hq] at hv; cases hv
  | some o =>
    rw [hq] at hv
    cases o with
    | cells cur T fr =>
      have hv : cur = cs := Option.some.inj hv
      subst hv
      have hsz : cur.size = l.length := by have := congrArg List.length hc; simpa using this
      refine ⟨?_, (Array.getElem?_eq_some_iff.1 hq).1, fun i x hx => ?_⟩
      · unfold mAll; rw [hq]; dsimp only; omega
      · rw [cell_of_heap hq, ← Array.getElem?_toList, hc, List.getElem?_map, hx]; rfl
    | _ => cases hv
theorem vars_of_laid {W : World} (h : laidMetH Tryd.prog Rows.reportLinesRow.laid W) : VarsOk (mAll W) W := by
  rw [MakeChecks.laidMetH_plain _ _ _ (by kernel_rfl)] at h
  obtain ⟨ps, ⟨g0, t0, cs0, f0, p0, q0, hg0, ht0, hv0, hd0, ⟨g1, t1, cs1, f1, p1, q1, hg1, ht1, hv1, hd1, ⟨g2, t2, cs2, f2, p2, q2, hg2, ht2, hv2, hd2, _, _⟩, _⟩, _⟩, _, _⟩ := h
  obtain rfl := Option.some.inj ((show Tryd.prog.globalNamed "concordat/request.words" = some 2 by kernel_rfl).symm.trans hg0)
  obtain rfl := Option.some.inj ((show Tryd.prog.globalNamed "concordat/report.kinds" = some 0 by kernel_rfl).symm.trans hg1)
  obtain rfl := Option.some.inj ((show Tryd.prog.globalNamed "concordat/report.outcomes" = some 1 by kernel_rfl).symm.trans hg2)
  obtain rfl := Option.some.inj ((show (Tryd.prog.globals[2]?).map (·.type) = some 69 by kernel_rfl).symm.trans ht0)
  obtain rfl := Option.some.inj ((show (Tryd.prog.globals[0]?).map (·.type) = some 45 by kernel_rfl).symm.trans ht1)
  obtain rfl := Option.some.inj ((show (Tryd.prog.globals[1]?).map (·.type) = some 49 by kernel_rfl).symm.trans ht2)
  have e0 : Rows.laid_concordat_request_words (H := Unit) = strData wordsL := by kernel_rfl
  have e1 : Rows.laid_concordat_report_kinds (H := Unit) = strData kindsL := by kernel_rfl
  have e2 : Rows.laid_concordat_report_outcomes (H := Unit) = strData outsL := by kernel_rfl
  rw [e0] at hd0
  rw [e1] at hd1
  rw [e2] at hd2
  have c0 := cells_of_strs Tryd.underlying69 Tryd.underlying9 (by kernel_rfl) (by kernel_rfl) hd0
  have c1 := cells_of_strs Tryd.underlying45 Tryd.underlying9 (by kernel_rfl) (by kernel_rfl) hd1
  have c2 := cells_of_strs Tryd.underlying49 Tryd.underlying9 (by kernel_rfl) (by kernel_rfl) hd2
  exact ⟨glob_of_var hg1 hv1 (by simpa using c1) (by simp [kindsL]), glob_of_var hg2 hv2 (by simpa using c2) (by simp [outsL]), glob_of_var hg0 hv0 (by simpa using c0) (by simp [wordsL])⟩
set_option maxRecDepth 100000 in
theorem door_met (os : Os) (args : Array Value) : laidMetH Tryd.prog Rows.reportLinesRow.laid ((World.doorLaid Tryd.prog 24 os).forCall (fun _ _ => 0) ⟨#[], args, []⟩).memory :=
  laidMetH_of_parts3 (fuel := 8) (laidMet_of_run' 8 (by kernel_rfl) (by kernel_rfl)) (by kernel_rfl) (by kernel_rfl)
end Go.Proofs.AL
namespace Go.Proofs.AL
open Go Go.RowKit Go.ChangeShapes Go.WideShapes Go.ChangeAt Go.Proofs.YtbhomjhhinfojaaDoor
/-! ### a row with a condition on the bulk, where variables are laid -/
section
variable {H : Type} {enc : TypeId × Value → H}
theorem returnsInHanded_of_cond_and {a : Assume} {C : Checked} {os : Os} {f : FuncId} {fn : Func} {s : OpenSpec} {k : (H : Type) → List (DataW H) → Bool} (hk : s.cond = some k) {F : Stop.Interp} {conds : List PathCond} {apart fresh handsOn again : Bool} {X : World → Array Value → Prop}
    (hX : ∀ (w w' : World) (args : Array Value), w.heap = w'.heap → X w args → X w' args)
    (own : ownKnob C.prog.godebug = none) (started : os.Started) (noInit : C.prog.inits.idxOf? f = none) (hfn : C.prog.funcs[f]? = some fn)
    (witness : ∃ (w : World) (tape : Tape) (i : Input), w.os = os ∧ (w.forCall tape i).Shaped C.prog ∧ i.vars = [] ∧ Input.okWide C.prog (w.forCall tape i) .any w.heap.size f i ∧
      ((s.pre enc C.prog fn conds apart (w.forCall tape i).memory i.args ∧ X (w.forCall tape i).memory i.args) ∧ sizedMet enc C.prog fn s apart (w.forCall tape i).memory i.args) ∧ a.holds C.prog (lone (Frame.enter C.prog f i.args .normal) [] (w.forCall tape i)))
    (contract : ∀ (W : World) (base : Nat) (args : Array Value) (ds gs : List (DataW H)) (before : List MemPlace),
      (∀ (j : Nat) t v, fn.params[j]? = some t → args[j]? = some v → Value.okWide C.prog W .any base t v) →
      DataW.Whole enc C.prog fn.params.toList s.vars apart W args.toList ds gs before →
      conds.all (PathCond.test C.prog ⟨fn.params.toList, ds, s.bare.plain.varTypes C.prog, gs⟩) = true → k H (ds ++ gs) = true →
      (DataW.weightsEach C.prog (fn.params.toList ++ s.bare.plain.varTypes C.prog) (ds ++ gs)).all (· ≤ reachBytes) = true → X W args →
      a.holds C.prog (lone (Frame.enter C.prog f args .normal) [] W) →
      Calls C.prog f args W fun e W' => ∃ v, e = .returned v ∧ (s.at F).post enc C.prog fn apart fresh handsOn again W args v W') :
    ReturnsInHanded a C os f .any (fun w args => (s.pre enc C.prog fn conds apart w args ∧ X w args) ∧ sizedMet enc C.prog fn s apart w args) ((s.at F).post enc C.prog fn apart fresh handsOn again) := by
  refine returnsInHanded_of_calls own started noInit witness ?_
  intro w tape i _ _ _ hok hpre hholds
  obtain ⟨_, _, _, fn', hfn', _, _, _, _, hval⟩ := hok
  have e : fn' = fn := Option.some.inj (hfn'.symm.trans hfn)
  subst e
  obtain ⟨⟨hp, hx⟩, hz⟩ := hpre
  obtain ⟨ds, gs, before, hw, hc, hkk⟩ := (OpenSpec.pre_some hk conds apart _ _).1 hp
  have hw' := DataW.Whole.of_heap (w' := w.forCall tape i) (by rfl) hw
  refine (contract (w.forCall tape i) w.heap.size i.args ds gs before hval hw' hc hkk (hz.weights hw) (hX _ _ _ (by rfl) hx) hholds).mono fun e W' ⟨v, he, hp⟩ => ?_
  subst he
  exact ChangeSpec.post_blind hp
theorem witness_upto {C : Checked} {os : Os} {f : FuncId} {fn : Func} {s : OpenSpec} {k : (H : Type) → List (DataW H) → Bool} (hk : s.cond = some k) {conds : List PathCond} {apart : Bool} {X : World → Array Value → Prop} (modest : Bool) (w0 : World) (args : Array Value) (fuel : Nat) (hos : w0.os = os)
    (hsh : (w0.forCall (fun _ _ => 0) ⟨#[], args, []⟩).Shaped C.prog)
    (hok : Input.okWideB C.prog (w0.forCall (fun _ _ => 0) ⟨#[], args, []⟩) f ⟨#[], args, []⟩ = true)
    {x : List (DataW H) × List (DataW H) × List MemPlace} (hx : DataW.whole enc C.prog (w0.forCall (fun _ _ => 0) ⟨#[], args, []⟩).memory fn.params.toList s.vars apart args.toList fuel = some x)
    (hconds : conds.all (PathCond.test C.prog ⟨fn.params.toList, x.1, s.bare.plain.varTypes C.prog, x.2.1⟩) = true) (hkk : k H (x.1 ++ x.2.1) = true)
    (hsz : s.bare.sizedB enc C.prog fn apart (w0.forCall (fun _ _ => 0) ⟨#[], args, []⟩).memory args fuel = true)
    (hX : X (w0.forCall (fun _ _ => 0) ⟨#[], args, []⟩).memory args) :
    ∃ (w : World) (tape : Tape) (i : Input), w.os = os ∧ (w.forCall tape i).Shaped C.prog ∧ i.vars = [] ∧ Input.okWide C.prog (w.forCall tape i) .any w.heap.size f i ∧
      ((s.pre enc C.prog fn conds apart (w.forCall tape i).memory i.args ∧ X (w.forCall tape i).memory i.args) ∧ sizedMet enc C.prog fn s apart (w.forCall tape i).memory i.args) ∧ ({ modest := modest } : Assume).holds C.prog (lone (Frame.enter C.prog f i.args .normal) [] (w.forCall tape i)) :=
  ⟨w0, fun _ _ => 0, ⟨#[], args, []⟩, hos, hsh, (Input.okWide_of_okWideB (base := 0) hok).1, (Input.okWide_of_okWideB hok).2,
    ⟨⟨(OpenSpec.pre_some hk conds apart _ _).2 ⟨x.1, x.2.1, x.2.2, DataW.Whole_of_whole hx, hconds, hkk⟩, hX⟩, sizedMet_of_sizedB hsz⟩, by
    simp only [Assume.holds]
    exact ⟨by simp, by simp, fun _ => Modest.zero, by simp, by simp⟩⟩
end
end Go.Proofs.AL
