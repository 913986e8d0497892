/- What the functions that the law SpanBytes reaches compute, and the law (part 2). -/
import Derived.Test.YtijlnfobnlplaaaAlSpanBytes1
namespace Go.Proofs.AL
open Go Go.RowKit Go.Proofs.Try
set_option maxRecDepth 100000
set_option linter.unusedSimpArgs false
set_option linter.unusedVariables false
/-- A text with edits done to it, from a place on. -/
def appP (s : ByteArray) : Nat → List Edt → ByteArray
  | k, [] => s.extract k s.size
  | k, x :: l => s.extract k x.1.toNat ++ (x.2.2 ++ appP s x.2.1.toNat l)
def appS (s : ByteArray) (l : List Edt) : ByteArray := if mayB s.size l = true then appP s 0 l else .empty
def eno (n : Int) (l : List Edt) : Int := if mayB n l = true then 0 else 20
theorem mayG_at {n e t : Int} {l : List Edt} (h : mayG n e t l = true) {i : Nat} (hi : i < l.length) : ∃ e' t', e ≤ e' ∧ t ≤ t' ∧ mayG n e' t' (l.drop i) = true := by
  induction l generalizing e t i with
  | nil => simp at hi
  | cons x l ih =>
    cases i with
    | zero => exact ⟨e, t, Int.le_refl _, Int.le_refl _, h⟩
    | succ i =>
      simp only [mayG, Bool.and_eq_true, decide_eq_true_eq] at h
      obtain ⟨⟨⟨⟨h1, h2⟩, h3⟩, h4⟩, h5⟩ := h
      obtain ⟨e', t', a, b, c⟩ := ih h5 (i := i) (by simpa using hi)
      exact ⟨e', t', by omega, by omega, c⟩
structure Ap where
  i : Nat
  at_ : Nat
  u : Bool
  k : Nat
  b : ByteArray
def ApOk (s : ByteArray) (l : List Edt) (p : Ap) (nx : Nat) : Prop := p.i ≤ l.length ∧ (∃ t, mayG s.size p.at_ t (l.drop p.i) = true) ∧ p.at_ ≤ s.size ∧ appP s 0 l = p.b ++ appP s p.at_ (l.drop p.i) ∧ p.b.size ≤ p.at_ + 200 * p.i ∧ p.k ≠ 0 ∧ p.k ≠ 2 ∧ p.k < nx
set_option maxHeartbeats 4000000 in
theorem apply_ok (s : ByteArray) (l : List Edt) (hl : l.length ≤ 60) (hs : s.size ≤ 3000) (ht : ∀ e ∈ l, e.2.2.size ≤ 200) : ACall cx 9 [.str s, .sl 0 (edts l)] (.tup [.str (appS s l), .int .i64 (eno s.size l)]) none := by
  refine ACall.wpc (C := cx) T.func_9 (by kernel_rfl) rfl (by rfl) ?_
  simp [f9]
  refine callP_i (check_ok s.size l (by omega)) ?_
  by_cases hm : mayB s.size l = true
  · simp [hm]
    refine loopK [0, 7, 18, 19] (ApOk s l) (fun p => [(20, .int .i64 (p.i : Nat)), (8, .int .i64 (p.at_ : Nat))]) (fun p => [[.tp 0 44 2 p.u, .sl p.k (strRows p.b)]]) (fun p => [(p.k, .ty 5)]) (fun p => l.length - p.i) ⟨0, 0, false, 1, .empty⟩ ⟨by simp, ⟨-1, hm⟩, by simp, by simp, by simp, by simp, by simp, by simp⟩ (by simp) [] (by simp [strRows]) (by simp) ?_
    rintro ⟨i, at_, u, k, b⟩ nx g ⟨hi, ⟨t, hmg⟩, hat, happ, hbs, hk, hk2, hkn⟩ hnx -
    dsimp only at hi hmg hat happ hbs hk hk2 hkn
    simp
    have hnk : ¬ nx = k := by omega
    have n0 : ¬ nx = 0 := by omega
    by_cases h4 : i < l.length
    · have w : IntKind.i64.wrap ((i : Int) + 1) = ((i + 1 : Nat) : Int) := by rw [wrap64_in (by omega) (by omega)]; omega
      rw [drop_cons h4] at hmg happ
      have htx := ht l[i] (List.getElem_mem h4)
      obtain ⟨⟨x, y, tx⟩, hx⟩ : ∃ x, x = l[i] := ⟨_, rfl⟩
      rw [← hx] at hmg happ htx
      have htx : tx.size ≤ 200 := htx
      simp only [mayG, Bool.and_eq_true, decide_eq_true_eq] at hmg
      obtain ⟨⟨⟨⟨m1, m2⟩, m3⟩, m4⟩, m5⟩ := hmg
      obtain ⟨x, rfl⟩ := Int.eq_ofNat_of_zero_le (show 0 ≤ x by omega)
      obtain ⟨y, rfl⟩ := Int.eq_ofNat_of_zero_le (show 0 ≤ y by omega)
      simp only [appP, Int.toNat_natCast] at happ
      have hes : (s.extract at_ x).size ≤ x - at_ := by rw [ByteArray.size_extract]; omega
      have n1 : ¬ nx + 1 = nx := by omega
      have n2 : ¬ nx + 1 = 0 := by omega
      simp [h4, edtV, ← hx]
      refine ⟨⟨by omega, by omega⟩, ?_⟩
      refine jcallP_i (bwrite_j (id := 0) (u := u) (b := b) (k := k) (s.extract at_ x) rfl hk hk2 hkn (.inr (by simp)) (by simp [hk]) (by omega)) ?_
      rintro _ s2 ⟨rfl, e1, e2, e3, e4⟩
      rw [S_ret e1 e2 e3 e4]
      simp
      refine jcallP_i (bwrite_j (id := 0) (u := true) (b := b ++ s.extract at_ x) (k := nx) tx rfl n0 (by omega) (by omega) (.inr (by simp)) (by simp [n0]) (by rw [ByteArray.size_append]; omega)) ?_
      rintro _ s2 ⟨rfl, e1, e2, e3, e4⟩
      rw [S_ret e1 e2 e3 e4]
      simp
      refine againK_i ⟨i + 1, y, true, nx + 1, b ++ s.extract at_ x ++ tx⟩ _ ⟨h4, ⟨x, m5⟩, by dsimp only; omega, ?_, ?_, n2, by dsimp only; omega, by dsimp only; omega⟩ (by dsimp only; omega) (by simp [w]) rfl (by simp [n1, n0, n2])
      · rw [happ]; simp [ByteArray.append_assoc]
      · dsimp only
        rw [ByteArray.size_append, ByteArray.size_append]
        omega
    · have : i = l.length := by omega
      subst this
      rw [List.drop_length] at happ
      have hes : (s.extract at_ s.size).size ≤ s.size - at_ := by rw [ByteArray.size_extract]; omega
      simp
      refine ⟨hat, ?_⟩
      refine jcallP_i (bwrite_j (id := 0) (u := u) (b := b) (k := k) (s.extract at_ s.size) rfl hk hk2 hkn (.inr (by simp)) (by simp [hk]) (by omega)) ?_
      rintro _ s2 ⟨rfl, e1, e2, e3, e4⟩
      rw [S_ret e1 e2 e3 e4]
      simp
      refine jcallP_i (bstring_j (id := 0) (u := true) (b := b ++ s.extract at_ s.size) (k := nx) rfl n0 (by omega) (.inr (by simp))) ?_
      rintro _ s2 ⟨rfl, e1, e2, e3, e4⟩
      rw [S_ret e1 e2 e3 e4]
      simp
      simp [appS, eno, hm, happ, appP]
  · simp [hm]
    simp [appS, eno, hm]
    rfl
theorem ext_split (s : ByteArray) (a b c : Nat) (h1 : a ≤ b) (h2 : b ≤ c) : s.extract a c = s.extract a b ++ s.extract b c := ByteArray.extract_eq_extract_append_extract b h1 h2
theorem ext_app_l (a b : ByteArray) (k : Nat) (h : k ≤ a.size) : (a ++ b).extract 0 k = a.extract 0 k := by
  rw [ByteArray.extract_append]
  have : k - a.size = 0 := by omega
  simp [this]
theorem ext_app_r (a b : ByteArray) : (a ++ b).extract a.size (a ++ b).size = b := by
  rw [ByteArray.extract_append, ByteArray.size_append]
  have h1 : a.extract a.size (a.size + b.size) = ByteArray.empty := by
    apply ByteArray.ext; simp
  have h2 : a.size - a.size = 0 := by omega
  have h3 : a.size + b.size - a.size = b.size := by omega
  rw [h1, h2, h3]
  simp
theorem ext_ext (s : ByteArray) (x y : Nat) (h : x ≤ y) : (s.extract 0 y).extract 0 x = s.extract 0 x := by
  rw [ByteArray.extract_extract]
  congr 1
  omega
theorem appP_cut (s : ByteArray) (c : Nat) (hc : c ≤ s.size) (l : List Edt) (h : ∀ x ∈ l.head?, (c : Int) ≤ x.1) : appP s 0 l = s.extract 0 c ++ appP s c l := by
  cases l with
  | nil => exact ext_split s 0 c s.size (by omega) hc
  | cons x l =>
    have := h x rfl
    simp only [appP]
    rw [ext_split s 0 c x.1.toNat (by omega) (by omega), ByteArray.append_assoc]
theorem appP_step (s : ByteArray) (x y : Nat) (tx : ByteArray) (l : List Edt) (h1 : x ≤ y) (h2 : y ≤ s.size) (h : ∀ x ∈ l.head?, (y : Int) ≤ x.1) :
    (appP s 0 l).extract 0 x = s.extract 0 x ∧ (appP s 0 l).extract y (appP s 0 l).size = appP s y l ∧ x ≤ (appP s 0 l).size ∧ y ≤ (appP s 0 l).size := by
  have e := appP_cut s y h2 l h
  have hs : (s.extract 0 y).size = y := by rw [ByteArray.size_extract]; omega
  rw [e]
  refine ⟨?_, ?_, ?_, ?_⟩
  · rw [ext_app_l _ _ _ (by omega), ext_ext s x y h1]
  · have := ext_app_r (s.extract 0 y) (appP s y l)
    rw [hs] at this
    exact this
  · rw [ByteArray.size_append]; omega
  · rw [ByteArray.size_append]; omega
theorem appP_size (s : ByteArray) (k : Nat) (l : List Edt) (n e t : Int) (hn : n = s.size) (hk : (k : Int) = e) (hm : mayG n e t l = true) (ht : ∀ e ∈ l, e.2.2.size ≤ 200) : (appP s k l).size + k ≤ s.size + 200 * l.length ∨ s.size < k := by
  induction l generalizing k e t with
  | nil => simp only [appP, ByteArray.size_extract, List.length_nil]; omega
  | cons x l ih =>
    simp only [mayG, Bool.and_eq_true, decide_eq_true_eq] at hm
    obtain ⟨⟨⟨⟨m1, m2⟩, m3⟩, m4⟩, m5⟩ := hm
    have h1 := ih x.2.1.toNat x.2.1 x.1 (by omega) m5 (fun e he => ht e (List.mem_cons_of_mem _ he))
    have h2 := ht x List.mem_cons_self
    simp only [appP, ByteArray.size_append, ByteArray.size_extract, List.length_cons]
    omega
set_option maxHeartbeats 4000000 in
theorem rapply_ok (s : ByteArray) (l : List Edt) (hl : l.length ≤ 60) (hs : s.size ≤ 3000) (ht : ∀ e ∈ l, e.2.2.size ≤ 200) : ACall cx 10 [.str s, .sl 0 (edts l)] (.tup [.str (appS s l), .int .i64 (eno s.size l)]) none := by
  refine ACall.wpc (C := cx) T.func_10 (by kernel_rfl) rfl (by rfl) ?_
  simp [f10]
  refine callP_i (rmay_ok s.size l (by omega)) ?_
  by_cases hm : mayB s.size l = true
  · have w0 : IntKind.i64.wrap ((l.length : Int) - 1) = (l.length : Int) - 1 := wrap64_in (by omega) (by omega)
    simp [hm, w0]
    refine loopK [1] (fun (j : Nat) _ => j ≤ l.length) (fun j => [(7, .int .i64 ((j : Int) - 1)), (0, .str (appP s 0 (l.drop j)))]) (fun _ => []) (fun _ => []) (fun j => j) l.length (Nat.le_refl _) (by simp [appP]) [] (by simp) (by simp) ?_
    rintro j nx g hj - -
    cases j with
    | zero =>
      simp
      simp [appS, eno, hm]
    | succ j =>
      have h4 : j < l.length := hj
      have e1 : ((j + 1 : Nat) : Int) - 1 = (j : Int) := by omega
      have w1 : IntKind.i64.wrap ((j : Int) - 1) = (j : Int) - 1 := wrap64_in (by omega) (by omega)
      obtain ⟨e', t', he, htt, hmg⟩ := mayG_at hm h4
      rw [drop_cons h4] at hmg
      have htx := ht l[j] (List.getElem_mem h4)
      have hdj := drop_cons h4
      obtain ⟨⟨x, y, tx⟩, hx⟩ : ∃ x, x = l[j] := ⟨_, rfl⟩
      rw [← hx] at hmg htx hdj
      have htx : tx.size ≤ 200 := htx
      simp only [mayG, Bool.and_eq_true, decide_eq_true_eq] at hmg
      obtain ⟨⟨⟨⟨m1, m2⟩, m3⟩, m4⟩, m5⟩ := hmg
      obtain ⟨x, rfl⟩ := Int.eq_ofNat_of_zero_le (show 0 ≤ x by omega)
      obtain ⟨y, rfl⟩ := Int.eq_ofNat_of_zero_le (show 0 ≤ y by omega)
      have hhd : ∀ z ∈ (l.drop (j + 1)).head?, (y : Int) ≤ z.1 := by
        intro z hz
        cases hq : l.drop (j + 1) with
        | nil => rw [hq] at hz; cases hz
        | cons z' r =>
          rw [hq] at hz m5
          cases hz
          simp only [mayG, Bool.and_eq_true, decide_eq_true_eq] at m5
          omega
      obtain ⟨s1, s2, s3, s4⟩ := appP_step s x y tx (l.drop (j + 1)) (by omega) (by omega) hhd
      have hsz := appP_size s y (l.drop (j + 1)) s.size y x rfl rfl m5 (fun e he => ht e (List.mem_of_mem_drop he))
      have hlen : (l.drop (j + 1)).length ≤ 60 := by simp; omega
      rw [e1]
      generalize appP s 0 (l.drop (j + 1)) = R at s1 s2 s3 s4 ⊢
      simp [h4, edtV, ← hx, s1, s2, s3, s4]
      refine ⟨by omega, by omega, by kernel_rfl, ?_⟩
      refine againK_i j _ (by omega) (by omega) ?_ rfl (by simp)
      simp [w1, hdj, appP, ByteArray.append_assoc]
  · simp [hm]
    simp [appS, eno, hm]
    rfl
end Go.Proofs.AL
namespace Go.Proofs.AL
open Go Go.RowKit Go.Proofs.Try
set_option maxRecDepth 100000
set_option linter.unusedSimpArgs false
set_option linter.unusedVariables false
theorem fewB_iff (l : List Edt) : fewB l = true ↔ l.length ≤ 60 ∧ ∀ e ∈ l, e.2.2.size ≤ 200 := by
  simp [fewB]
def FewTo (l : List Edt) (i : Nat) (_ : Nat) : Prop := i ≤ l.length ∧ ∀ e ∈ l.take i, e.2.2.size ≤ 200
set_option maxHeartbeats 4000000 in
theorem few_ok (l : List Edt) : ACall cx 8 [.sl 0 (edts l)] (.bool (fewB l)) none := by
  refine ACall.wpc (C := cx) T.func_8 (by kernel_rfl) rfl (by rfl) ?_
  simp [f8]
  by_cases h60 : l.length ≤ 60
  · have h60' : ¬ (60 : Int) < l.length := by omega
    simp [h60']
    refine loopK [0] (FewTo l) (fun i => [(3, .int .i64 (i : Nat))]) (fun _ => []) (fun _ => []) (fun i => l.length - i) 0 ⟨by simp, fun e he => by simp at he⟩ (by simp) [] rfl (by simp) ?_
    rintro i nx g ⟨hi, hall⟩ - -
    simp
    by_cases h4 : i < l.length
    · have w : IntKind.i64.wrap ((i : Int) + 1) = ((i + 1 : Nat) : Int) := by rw [wrap64_in (by omega) (by omega)]; omega
      by_cases h5 : l[i].2.2.size ≤ 200
      · have h5' : ¬ (200 : Int) < l[i].2.2.size := by omega
        simp [h4, edtV, h5']
        refine againK_i (i + 1) g ⟨h4, ?_⟩ (by omega) (by simp [w]) (by simp) (by simp)
        rw [List.take_succ_eq_append_getElem h4]
        intro e he
        rcases List.mem_append.1 he with he | he
        · exact hall e he
        · rw [List.mem_singleton.1 he]; exact h5
      · have h5' : (200 : Int) < l[i].2.2.size := by omega
        have hf : fewB l = false := by
          rw [Bool.eq_false_iff]
          intro h
          exact h5 ((fewB_iff l).1 h |>.2 _ (List.getElem_mem h4))
        simp [h4, edtV, h5', hf]
    · have : i = l.length := by omega
      subst this
      rw [List.take_length] at hall
      simp
      exact (fewB_iff l).2 ⟨h60, hall⟩
  · have h60' : (60 : Int) < l.length := by omega
    have hf : fewB l = false := by
      rw [Bool.eq_false_iff]
      intro h
      exact h60 ((fewB_iff l).1 h).1
    simp [h60', hf]
end Go.Proofs.AL
namespace Go.Proofs.AL
open Go Go.RowKit Go.Proofs.Try
set_option maxRecDepth 100000
set_option linter.unusedSimpArgs false
set_option linter.unusedVariables false
def SameTo (a b : List Edt) (i : Nat) (_ : Nat) : Prop := i ≤ a.length ∧ a.take i = b.take i
set_option maxHeartbeats 4000000 in
theorem esame_ok (a b : List Edt) (hal : a.length ≤ 1000000) : ACall cx 14 [.sl 0 (edts a), .sl 0 (edts b)] (.bool (decide (a = b))) none := by
  refine ACall.wpc (C := cx) T.func_14 (by kernel_rfl) rfl (by rfl) ?_
  simp [f14]
  by_cases hl : a.length = b.length
  · have hl' : ((a.length : Int) != (b.length : Int)) = false := by simp [hl]
    simp [hl']
    refine loopK [0, 1] (SameTo a b) (fun i => [(5, .int .i64 (i : Nat))]) (fun _ => []) (fun _ => []) (fun i => a.length - i) 0 ⟨by simp, rfl⟩ (by simp) [] rfl (by simp) ?_
    rintro i nx g ⟨hi, ht⟩ - -
    simp
    by_cases h4 : i < a.length
    · have h5 : i < b.length := by omega
      have w : IntKind.i64.wrap ((i : Int) + 1) = ((i + 1 : Nat) : Int) := by rw [wrap64_in (by omega) (by omega)]; omega
      have hcond : (!a[i].1 == b[i].1 || (!a[i].2.1 == b[i].2.1 || !decide (a[i].2.2 = b[i].2.2))) = !decide (a[i] = b[i]) := by
        rw [Bool.eq_iff_iff]
        simp [Prod.ext_iff]
      simp [h4, h5, edtV]
      refine ⟨by kernel_rfl, ?_⟩
      rw [hcond]
      by_cases he : a[i] = b[i]
      · simp [he]
        refine againK_i (i + 1) g ⟨h4, ?_⟩ (by omega) (by simp [w]) (by simp) (by simp)
        rw [List.take_succ_eq_append_getElem h4, List.take_succ_eq_append_getElem h5, ht, he]
      · have hne : ¬ a = b := fun e => he (by subst e; rfl)
        simp [he, hne]
    · have : i = a.length := by omega
      subst this
      rw [List.take_length, hl, List.take_length] at ht
      simp [ht]
  · have hl' : ((a.length : Int) != (b.length : Int)) = true := by simp; omega
    have hne : ¬ a = b := fun e => hl (by rw [e])
    simp [hl', hne]
end Go.Proofs.AL
namespace Go.Proofs.AL
open Go Go.RowKit Go.Proofs.Try
set_option maxRecDepth 100000
set_option linter.unusedSimpArgs false
set_option linter.unusedVariables false
/-- The edits that take edits back, the text being so much longer already. -/
def invL (s : ByteArray) : Int → List Edt → List Edt
  | _, [] => []
  | m, x :: l => (x.1 + m, x.1 + m + x.2.2.size, s.extract x.1.toNat x.2.1.toNat) :: invL s (m + (x.2.2.size - (x.2.1 - x.1))) l
def invS (s : ByteArray) (l : List Edt) : List Edt := if mayB s.size l = true then invL s 0 l else []
structure Iv where
  i : Nat
  k : Nat
  m : Int
  acc : List Edt
def IvOk (s : ByteArray) (l : List Edt) (p : Iv) (nx : Nat) : Prop := p.i ≤ l.length ∧ (∃ e t, mayG s.size e t (l.drop p.i) = true ∧ 0 ≤ e ∧ -e ≤ p.m ∧ e ≤ s.size) ∧ p.m ≤ 200 * p.i ∧ invL s 0 l = p.acc ++ invL s p.m (l.drop p.i) ∧ p.acc.length ≤ p.i ∧ p.k ≠ 0 ∧ p.k ≠ 2 ∧ p.k < nx
set_option maxHeartbeats 4000000 in
theorem rinv_ok (s : ByteArray) (l : List Edt) (hl : l.length ≤ 60) (hs : s.size ≤ 3000) (ht : ∀ e ∈ l, e.2.2.size ≤ 200) : ACall cx 12 [.str s, .sl 0 (edts l)] (.tup [.sl 0 (edts (invS s l)), .int .i64 (eno s.size l)]) none := by
  refine ACall.wpc (C := cx) T.func_12 (by kernel_rfl) rfl (by rfl) ?_
  simp [f12]
  refine callP_i (rmay_ok s.size l (by omega)) ?_
  by_cases hm : mayB s.size l = true
  · simp [hm]
    refine loopK [0, 1] (IvOk s l) (fun p => [(9, .int .i64 (p.i : Nat)), (8, .int .i64 p.m), (7, .sl p.k (edts p.acc))]) (fun _ => []) (fun p => [(p.k, .ty 39)]) (fun p => l.length - p.i) ⟨0, 1, 0, []⟩ ⟨by simp, ⟨0, -1, hm, by simp, by simp, by simp⟩, by simp, rfl, by simp, by simp, by simp, by simp⟩ (by simp) [] (by simp) (by simp) ?_
    rintro ⟨i, k, m, acc⟩ nx g ⟨hi, ⟨e, t, hmg, he0, hme, hes⟩, hm2, hinv, hacc, hk, hk2, hkn⟩ hnx -
    dsimp only at hi hmg he0 hme hes hm2 hinv hacc hk hk2 hkn
    simp
    have hnk : ¬ nx = k := by omega
    have n0 : ¬ nx = 0 := by omega
    by_cases h4 : i < l.length
    · have w : IntKind.i64.wrap ((i : Int) + 1) = ((i + 1 : Nat) : Int) := by rw [wrap64_in (by omega) (by omega)]; omega
      rw [drop_cons h4] at hmg hinv
      have htx := ht l[i] (List.getElem_mem h4)
      obtain ⟨⟨x, y, tx⟩, hx⟩ : ∃ x, x = l[i] := ⟨_, rfl⟩
      rw [← hx] at hmg hinv htx
      have htx : tx.size ≤ 200 := htx
      simp only [mayG, Bool.and_eq_true, decide_eq_true_eq] at hmg
      obtain ⟨⟨⟨⟨m1, m2⟩, m3⟩, m4⟩, m5⟩ := hmg
      obtain ⟨x, rfl⟩ := Int.eq_ofNat_of_zero_le (show 0 ≤ x by omega)
      obtain ⟨y, rfl⟩ := Int.eq_ofNat_of_zero_le (show 0 ≤ y by omega)
      simp only [invL, Int.toNat_natCast] at hinv
      have wa : IntKind.i64.wrap ((x : Int) + m) = (x : Int) + m := wrap64_in (by omega) (by omega)
      have wb : IntKind.i64.wrap ((x : Int) + m + tx.size) = (x : Int) + m + tx.size := wrap64_in (by omega) (by omega)
      have wc : IntKind.i64.wrap ((y : Int) - x) = (y : Int) - x := wrap64_in (by omega) (by omega)
      have wd : IntKind.i64.wrap ((tx.size : Int) - ((y : Int) - x)) = (tx.size : Int) - ((y : Int) - x) := wrap64_in (by omega) (by omega)
      have we : IntKind.i64.wrap (m + ((tx.size : Int) - ((y : Int) - x))) = m + ((tx.size : Int) - ((y : Int) - x)) := wrap64_in (by omega) (by omega)
      simp [h4, edtV, ← hx, wa, wb, wc, wd, we, hk, hk2, n0, hnk]
      refine ⟨⟨by omega, by omega⟩, by omega, by kernel_rfl, by kernel_rfl, ?_⟩
      refine againK_i ⟨i + 1, nx, m + ((tx.size : Int) - ((y : Int) - x)), acc ++ [((x : Int) + m, (x : Int) + m + tx.size, s.extract x y)]⟩ g ⟨h4, ⟨y, x, m5, by omega, by dsimp only; omega, by omega⟩, by dsimp only; omega, ?_, by simp; omega, n0, by dsimp only; omega, by dsimp only; omega⟩ (by dsimp only; omega) ?_ (by simp) (by simp [n0, hnk])
      · rw [hinv]; simp
      · simp [w, ← edts_snoc, edtV]
    · have : i = l.length := by omega
      subst this
      rw [List.drop_length] at hinv
      simp [invS, eno, hm, hinv, invL]
  · simp [hm]
    simp [invS, eno, hm]
end Go.Proofs.AL
