/- What the functions that the law SpanBytes reaches compute, and the law (part 3). -/
import Derived.Test.YtijlnfobnlplaaaAlSpanBytes2
namespace Go.Proofs.AL
open Go Go.RowKit Go.Proofs.Try
set_option maxRecDepth 100000
set_option linter.unusedSimpArgs false
set_option linter.unusedVariables false
theorem grown_ok (l : List Edt) : ACall cx 24 [.sl 0 (edts l)] (.fn (.func 34) [] [.cptr [.sl 0 (edts l)]]) none := by
  refine ACall.wpc (C := cx) T.func_24 (by kernel_rfl) rfl (by rfl) ?_
  simp [f24]
/-- By how much the text has grown ahead of each. -/
def moreAt (l : List Edt) (i : Nat) : Int := (l.take i).foldl (fun m e => m + (e.2.2.size - (e.2.1 - e.1))) 0
def grVs (l : List Edt) : List (List AV) := (List.range l.length).map fun i => [.int .i64 (moreAt l i), .agg (edtV (l.getD i (0, 0, .empty)))]
set_option maxHeartbeats 4000000 in
theorem grown_seq (l : List Edt) (hl : l.length ≤ 1000000) (hW : ∀ (i : Nat) (h : i < l.length), IntKind.i64.wrap (moreAt l i + IntKind.i64.wrap (l[i].2.2.size - IntKind.i64.wrap (l[i].2.1 - l[i].1))) = moreAt l (i + 1)) : IsSeq cx 34 [.cptr [.sl 0 (edts l)]] (grVs l) := by
  refine ⟨⟨f34, _, T.func_34, by kernel_rfl, rfl⟩, fun y k0 J Stop lp hY c lv nx N m hc hJ => ?_⟩
  refine JCall.wpc (C := cx) T.func_34 (by kernel_rfl) rfl (by rfl) (fun hL => ?_)
  clear hL
  simp [f34]
  refine loopK [0, 6, 7] (fun (p : Nat × Obs × Lvs) nx => p.1 ≤ l.length ∧ p.2.1.length = k0 ∧ J p.1 p.2.1 p.2.2 nx lp) (fun p => [(8, .int .i64 (p.1 : Nat)), (3, .int .i64 (moreAt l p.1))]) (fun p => p.2.1) (fun p => p.2.2) (fun p => l.length - p.1) (0, c, lv) ⟨by simp, hc, hJ⟩ (by simp [moreAt]) [] (by simp) (by simp) ?_
  rintro ⟨i, c1, lv1⟩ nx1 r1 ⟨hi, hc1, hJ1⟩ - -
  dsimp only at hi hc1 hJ1
  simp
  by_cases h4 : i < l.length
  · have w : IntKind.i64.wrap ((i : Int) + 1) = ((i + 1 : Nat) : Int) := by rw [wrap64_in (by omega) (by omega)]; omega
    have hgi : i < (grVs l).length := by simp [grVs]; exact h4
    have hg : (grVs l)[i] = [.int .i64 (moreAt l i), .agg (edtV l[i])] := by simp [grVs, List.getD_eq_getElem?_getD, List.getElem?_eq_getElem h4]
    have hy := hY i hgi c1 (r1 ++ [edtV l[i]]) lv1 nx1
    rw [hg] at hy
    simp [h4, edtV]
    refine yieldP_i (hy _ _ hc1 hJ1) ?_
    rintro b s2 ⟨c2, r2, lv2, nx2, lp2, hc2, e1, e2, e3, e4, hb⟩
    rw [S_ret e1 e2 e3 e4]
    have hcc : c1.length = c2.length := by omega
    rcases hb with ⟨rfl, rfl, hJ2⟩ | ⟨rfl, hS⟩
    · simp [hcc, edtV, hW i h4]
      exact againK_i (i + 1, c2, lv2) _ ⟨h4, hc2, hJ2⟩ (by dsimp only; omega) (by simp [w, hW i h4]) rfl (by simp)
    · simp
      exact ⟨c2, _, lv2, nx2, lp2, hc2, rfl, rfl, rfl, rfl, .inr hS⟩
  · have : i = l.length := by omega
    subst this
    simp
    have hlg : (grVs l).length = l.length := by simp [grVs]
    exact ⟨c1, _, lv1, nx1, lp, hc1, rfl, rfl, rfl, rfl, .inl ⟨rfl, by rw [hlg]; exact hJ1⟩⟩
end Go.Proofs.AL
namespace Go.Proofs.AL
open Go Go.RowKit Go.Proofs.Try
set_option maxRecDepth 100000
set_option linter.unusedSimpArgs false
set_option linter.unusedVariables false
/-- The i-th of the edits that take edits back; the first i. -/
def invAt (s : ByteArray) (l : List Edt) (i : Nat) : Edt := let x := l.getD i (0, 0, .empty); (x.1 + moreAt l i, x.1 + moreAt l i + x.2.2.size, s.extract x.1.toNat x.2.1.toNat)
def invTo (s : ByteArray) (l : List Edt) (i : Nat) : List Edt := (List.range i).map (invAt s l)
theorem invTo_succ (s : ByteArray) (l : List Edt) (i : Nat) : invTo s l (i + 1) = invTo s l i ++ [invAt s l i] := by simp [invTo, List.range_succ]
theorem moreAt_succ (l : List Edt) (i : Nat) (h : i < l.length) : moreAt l (i + 1) = moreAt l i + (l[i].2.2.size - (l[i].2.1 - l[i].1)) := by
  unfold moreAt
  rw [List.take_succ_eq_append_getElem h, List.foldl_append]
  rfl
/-- What is so of each edit, where they may be done. -/
theorem may_facts (n : Int) (l : List Edt) (hm : mayB n l = true) (ht : ∀ e ∈ l, e.2.2.size ≤ 200) : ∀ (i : Nat), i ≤ l.length → ∃ e t, mayG n e t (l.drop i) = true ∧ 0 ≤ e ∧ -1 ≤ t ∧ -e ≤ moreAt l i ∧ moreAt l i ≤ 200 * i := by
  intro i
  induction i with
  | zero => intro _; exact ⟨0, -1, hm, by omega, by omega, by simp [moreAt], by simp [moreAt]⟩
  | succ i ih =>
    intro hi
    obtain ⟨e, t, h1, h2, h3, h4, h5⟩ := ih (by omega)
    have h6 : i < l.length := hi
    rw [drop_cons h6] at h1
    simp only [mayG, Bool.and_eq_true, decide_eq_true_eq] at h1
    obtain ⟨⟨⟨⟨m1, m2⟩, m3⟩, m4⟩, m5⟩ := h1
    have htx := ht l[i] (List.getElem_mem h6)
    have hs := moreAt_succ l i h6
    exact ⟨_, _, m5, by omega, by omega, by omega, by omega⟩
theorem may_at (n : Int) (l : List Edt) (hm : mayB n l = true) (ht : ∀ e ∈ l, e.2.2.size ≤ 200) (i : Nat) (h : i < l.length) : 0 ≤ l[i].1 ∧ l[i].1 ≤ l[i].2.1 ∧ l[i].2.1 ≤ n ∧ -l[i].1 ≤ moreAt l i ∧ moreAt l i ≤ 200 * i ∧ l[i].2.2.size ≤ 200 := by
  obtain ⟨e, t, h1, h2, h3, h4, h5⟩ := may_facts n l hm ht i (by omega)
  rw [drop_cons h] at h1
  simp only [mayG, Bool.and_eq_true, decide_eq_true_eq] at h1
  obtain ⟨⟨⟨⟨m1, m2⟩, m3⟩, m4⟩, m5⟩ := h1
  exact ⟨by omega, m3, m4, by omega, h5, ht l[i] (List.getElem_mem h)⟩
theorem invL_drop (s : ByteArray) (l : List Edt) : ∀ (k i : Nat), i + k = l.length → invL s (moreAt l i) (l.drop i) = (List.range' i k).map (invAt s l) := by
  intro k
  induction k with
  | zero => intro i h; rw [List.drop_of_length_le (by omega)]; rfl
  | succ k ih =>
    intro i h
    have h4 : i < l.length := by omega
    rw [drop_cons h4]
    simp only [invL, List.range'_succ, List.map_cons]
    rw [← moreAt_succ l i h4, ih (i + 1) (by omega)]
    simp [invAt, List.getD_eq_getElem?_getD, List.getElem?_eq_getElem h4]
theorem invTo_all (s : ByteArray) (l : List Edt) : invTo s l l.length = invL s 0 l := by
  have := invL_drop s l l.length 0 (by omega)
  simpa [invTo, List.range_eq_range', moreAt] using this.symm
def InvJ (s : ByteArray) (l : List Edt) (i : Nat) (c : Obs) (lv : Lvs) (nx : Nat) : Prop := 3 ≤ nx ∧ ∃ k, k ≠ 0 ∧ k ≠ 2 ∧ k < nx ∧ c = [[.str s], [.sl k (edts (invTo s l i))]] ∧ (lv = [] ∧ k = 1 ∨ lv = [(k, .ty 39)])
set_option maxHeartbeats 4000000 in
theorem inverse_ok (s : ByteArray) (l : List Edt) (hl : l.length ≤ 60) (hs : s.size ≤ 3000) (ht : ∀ e ∈ l, e.2.2.size ≤ 200) : ACall cx 11 [.str s, .sl 0 (edts l)] (.tup [.sl 0 (edts (invS s l)), .int .i64 (eno s.size l)]) none := by
  refine ACall.wpc (C := cx) T.func_11 (by kernel_rfl) rfl (by rfl) ?_
  simp [f11]
  refine callP_i (check_ok s.size l (by omega)) ?_
  by_cases hm : mayB s.size l = true
  · simp [hm]
    refine callP_i (grown_ok l) ?_
    simp
    refine range_seq (grVs l) (InvJ s l) (by simp) (by simp) (grown_seq l (by omega) ?_) ?_ (by simp) ⟨Nat.le_refl 3, 1, by decide, by decide, by decide, rfl, .inl ⟨rfl, rfl⟩⟩ ?_ ?_
    · intro i h
      obtain ⟨a1, a2, a3, a4, a5, a6⟩ := may_at s.size l hm ht i h
      rw [moreAt_succ l i h, wrap64_in (n := l[i].2.1 - l[i].1) (by omega) (by omega), wrap64_in (n := (l[i].2.2.size : Int) - (l[i].2.1 - l[i].1)) (by omega) (by omega), wrap64_in (by omega) (by omega)]
    · intro v hv
      simp only [grVs, List.mem_map] at hv
      obtain ⟨i, _, rfl⟩ := hv
      rfl
    · rintro y lp1 lp2 i hi c rest lv nx - ⟨hnx, k, hk, hk2, hkn, rfl, hlv⟩ -
      have hi' : i < l.length := by simpa [grVs] using hi
      have hg : (grVs l)[i] = [.int .i64 (moreAt l i), .agg (edtV l[i])] := by simp [grVs, List.getD_eq_getElem?_getD, List.getElem?_eq_getElem hi']
      rw [hg]
      obtain ⟨a1, a2, a3, a4, a5, a6⟩ := may_at s.size l hm ht i hi'
      have wa : IntKind.i64.wrap (l[i].1 + moreAt l i) = l[i].1 + moreAt l i := wrap64_in (by omega) (by omega)
      have wb : IntKind.i64.wrap (l[i].1 + moreAt l i + l[i].2.2.size) = l[i].1 + moreAt l i + l[i].2.2.size := wrap64_in (by omega) (by omega)
      have hat : edtV (invAt s l i) = [.int .i64 (l[i].1 + moreAt l i), .int .i64 (l[i].1 + moreAt l i + l[i].2.2.size), .str (s.extract l[i].1.toNat l[i].2.1.toNat)] := by
        simp [invAt, edtV, List.getD_eq_getElem?_getD, List.getElem?_eq_getElem hi']
      have hsn := edts_snoc (invTo s l i) (invAt s l i)
      rw [← invTo_succ, hat] at hsn
      have hlen : (invTo s l i).length = i := by simp [invTo]
      have n0 : ¬ nx = 0 := by omega
      have nk : ¬ nx = k := by omega
      rcases hlv with ⟨rfl, rfl⟩ | rfl
      · simp [edtV, wa, wb, n0, nk, hlen, hsn]
        refine ⟨by omega, by omega, by kernel_rfl, ?_⟩
        exact rNext_i [[.str s], [.sl nx (edts (invTo s l (i + 1)))]] [_] _ rfl rfl rfl ⟨by omega, nx, n0, by omega, by omega, rfl, .inr rfl⟩
      · simp [edtV, wa, wb, n0, nk, hlen, hsn, hk, hk2]
        refine ⟨by omega, by omega, by kernel_rfl, ?_⟩
        exact rNext_i [[.str s], [.sl nx (edts (invTo s l (i + 1)))]] [_] _ rfl rfl rfl ⟨by omega, nx, n0, by omega, by omega, rfl, .inr rfl⟩
    · rintro c rest lv nx - ⟨hnx, k, hk, hk2, hkn, rfl, hlv⟩
      have hlg : (grVs l).length = l.length := by simp [grVs]
      rw [hlg, invTo_all]
      simp [invS, eno, hm]
  · simp [hm]
    simp [invS, eno, hm]
end Go.Proofs.AL
namespace Go.Proofs.AL
open Go Go.RowKit Go.Proofs.Try
set_option maxRecDepth 100000
set_option linter.unusedSimpArgs false
set_option linter.unusedVariables false
def far : Int := 9223372036854775807
def dOf (x : Edt) : Int := x.2.2.size - (x.2.1 - x.1)
/-- Where a byte stands then: the text has grown so much ahead; so far it stands at n. -/
def movG (at_ : Int) : Int → Int → List Edt → Int × Bool
  | _, n, [] => (n, true)
  | m, n, x :: l => if x.2.1 ≤ at_ then movG at_ (m + dOf x) (IntKind.i64.wrap (at_ + (m + dOf x))) l else if x.1 ≤ at_ then (0, false) else movG at_ (m + dOf x) n l
def movS (l : List Edt) (at_ : Int) : Int × Bool := if at_ < 0 ∨ mayB far l = false then (0, false) else movG at_ 0 at_ l
theorem wrap_idem (n : Int) : IntKind.i64.wrap (IntKind.i64.wrap n) = IntKind.i64.wrap n := by
  simp only [IntKind.wrap_i64]; omega
def MovJ (l : List Edt) (at_ : Int) (i : Nat) (c : Obs) (lv : Lvs) (nx : Nat) : Prop := lv = [] ∧ ∃ n, c = [[.int .i64 at_], [.int .i64 0], [.bool false], [.int .i64 n]] ∧ movG at_ 0 at_ l = movG at_ (moreAt l i) n (l.drop i)
set_option maxHeartbeats 4000000 in
theorem moved_ok (l : List Edt) (at_ : Int) (hl : l.length ≤ 60) (ha : -9223372036854775808 ≤ at_ ∧ at_ ≤ far) (ht : ∀ e ∈ l, e.2.2.size ≤ 200) : ACall cx 15 [.sl 0 (edts l), .int .i64 at_] (.tup [.int .i64 (movS l at_).1, .bool (movS l at_).2]) none := by
  unfold far at ha
  refine ACall.wpc (C := cx) T.func_15 (by kernel_rfl) rfl (by rfl) ?_
  simp [f15]
  by_cases h0 : at_ < 0
  · simp [h0, movS]
  · simp [h0]
    refine callP_i (check_ok far l (by omega)) ?_
    by_cases hm : mayB far l = true
    · simp [hm]
      refine callP_i (grown_ok l) ?_
      simp
      refine range_seq (grVs l) (MovJ l at_) (by simp) (by simp) (grown_seq l (by omega) ?_) ?_ (by simp) ⟨rfl, _, rfl, by simp [moreAt]⟩ ?_ ?_
      · intro i h
        obtain ⟨a1, a2, a3, a4, a5, a6⟩ := may_at far l hm ht i h
        unfold far at a3
        rw [moreAt_succ l i h, wrap64_in (n := l[i].2.1 - l[i].1) (by omega) (by omega), wrap64_in (n := (l[i].2.2.size : Int) - (l[i].2.1 - l[i].1)) (by omega) (by omega), wrap64_in (by omega) (by omega)]
      · intro v hv
        simp only [grVs, List.mem_map] at hv
        obtain ⟨i, _, rfl⟩ := hv
        rfl
      · rintro y lp1 lp2 i hi c rest lv nx - ⟨rfl, n, rfl, hg⟩ -
        have hi' : i < l.length := by simpa [grVs] using hi
        have hv : (grVs l)[i] = [.int .i64 (moreAt l i), .agg (edtV l[i])] := by simp [grVs, List.getD_eq_getElem?_getD, List.getElem?_eq_getElem hi']
        rw [hv]
        obtain ⟨a1, a2, a3, a4, a5, a6⟩ := may_at far l hm ht i hi'
        unfold far at a3
        have hs := moreAt_succ l i hi'
        rw [drop_cons hi'] at hg
        simp only [movG] at hg
        obtain ⟨⟨x, y, tx⟩, hx⟩ : ∃ x, x = l[i] := ⟨_, rfl⟩
        rw [← hx] at hs hg a1 a2 a3 a4 a6
        dsimp only at hs hg a1 a2 a3 a4 a6
        have hd : moreAt l i + dOf (x, y, tx) = moreAt l (i + 1) := hs.symm
        rw [hd] at hg
        by_cases c1 : y ≤ at_
        · simp [edtV, ← hx, c1]
          have hw : IntKind.i64.wrap (IntKind.i64.wrap (IntKind.i64.wrap (at_ + moreAt l i) + tx.size) - IntKind.i64.wrap (y - x)) = IntKind.i64.wrap (at_ + moreAt l (i + 1)) := by
            rw [hs]; simp only [IntKind.wrap_i64]; omega
          rw [hw]
          refine rNext_i [[.int .i64 at_], [.int .i64 0], [.bool false], [.int .i64 _]] [_] _ rfl rfl rfl ⟨rfl, _, rfl, ?_⟩
          rw [hg, if_pos c1]
        · by_cases c2 : x ≤ at_
          · rw [if_neg c1, if_pos c2] at hg
            simp [edtV, ← hx, c1, c2]
            refine rOut_i [[.int .i64 at_], [.int .i64 0], [.bool false], [.int .i64 _]] [_] rfl rfl ?_
            intro g
            simp [movS, h0, hm, hg]
          · rw [if_neg c1, if_neg c2] at hg
            simp [edtV, ← hx, c1, c2]
            exact rNext_i [[.int .i64 at_], [.int .i64 0], [.bool false], [.int .i64 _]] [_] _ rfl rfl rfl ⟨rfl, _, rfl, hg⟩
      · rintro c rest lv nx - ⟨rfl, n, rfl, hg⟩
        have hlg : (grVs l).length = l.length := by simp [grVs]
        rw [hlg, List.drop_length] at hg
        simp [movS, h0, hm, hg, movG]
    · simp [hm, movS, h0]
end Go.Proofs.AL
namespace Go.Proofs.AL
open Go Go.RowKit Go.Proofs.Try
set_option maxRecDepth 100000
set_option linter.unusedSimpArgs false
set_option linter.unusedVariables false
def rmovG (at_ : Int) : Int → List Edt → Int × Bool
  | m, [] => (IntKind.i64.wrap (at_ + m), true)
  | m, x :: l => if x.1 ≤ at_ ∧ at_ < x.2.1 then (0, false) else rmovG at_ (if x.2.1 ≤ at_ then m + dOf x else m) l
theorem rmovG_eq (at_ : Int) (l : List Edt) : ∀ (e t m m' n : Int), mayG far e t l = true → ((e ≤ at_ ∧ n = IntKind.i64.wrap (at_ + m) ∧ m' = m) ∨ (at_ < t ∧ n = IntKind.i64.wrap (at_ + m'))) → movG at_ m n l = rmovG at_ m' l := by
  induction l with
  | nil =>
    rintro e t m m' n - (⟨_, rfl, rfl⟩ | ⟨_, rfl⟩) <;> rfl
  | cons x l ih =>
    intro e t m m' n hm hc
    simp only [mayG, Bool.and_eq_true, decide_eq_true_eq] at hm
    obtain ⟨⟨⟨⟨m1, m2⟩, m3⟩, m4⟩, m5⟩ := hm
    simp only [movG, rmovG]
    by_cases c1 : x.2.1 ≤ at_
    · have c2 : ¬ (x.1 ≤ at_ ∧ at_ < x.2.1) := by omega
      rw [if_pos c1, if_neg c2, if_pos c1]
      rcases hc with ⟨h1, rfl, rfl⟩ | ⟨h1, rfl⟩
      · exact ih _ _ _ _ _ m5 (.inl ⟨c1, rfl, rfl⟩)
      · omega
    · rw [if_neg c1, if_neg c1]
      by_cases c2 : x.1 ≤ at_
      · rw [if_pos c2, if_pos ⟨c2, by omega⟩]
      · rw [if_neg c2, if_neg (by omega)]
        refine ih _ _ _ _ _ m5 (.inr ⟨by omega, ?_⟩)
        rcases hc with ⟨h1, rfl, rfl⟩ | ⟨h1, rfl⟩ <;> rfl
theorem movS_eq (l : List Edt) (at_ : Int) (ha : -9223372036854775808 ≤ at_ ∧ at_ ≤ far) : movS l at_ = if at_ < 0 ∨ mayB far l = false then (0, false) else rmovG at_ 0 l := by
  unfold movS
  split
  · rfl
  · rename_i h
    unfold far at ha
    simp only [not_or, Bool.not_eq_false] at h
    exact rmovG_eq at_ l 0 (-1) 0 0 at_ h.2 (.inl ⟨by omega, by rw [Int.add_zero, wrap64_in (by omega) (by omega)], rfl⟩)
structure Rm where
  i : Nat
  m : Int
def RmOk (at_ : Int) (l : List Edt) (p : Rm) (_ : Nat) : Prop := p.i ≤ l.length ∧ (∃ e t, mayG far e t (l.drop p.i) = true ∧ 0 ≤ e ∧ -e ≤ p.m ∧ e ≤ far) ∧ p.m ≤ 200 * p.i ∧ rmovG at_ 0 l = rmovG at_ p.m (l.drop p.i)
set_option maxHeartbeats 4000000 in
theorem rmoved_ok (l : List Edt) (at_ : Int) (hl : l.length ≤ 60) (ha : -9223372036854775808 ≤ at_ ∧ at_ ≤ far) (ht : ∀ e ∈ l, e.2.2.size ≤ 200) : ACall cx 16 [.sl 0 (edts l), .int .i64 at_] (.tup [.int .i64 (movS l at_).1, .bool (movS l at_).2]) none := by
  rw [movS_eq l at_ ha]
  unfold far at ha
  refine ACall.wpc (C := cx) T.func_16 (by kernel_rfl) rfl (by rfl) ?_
  simp [f16]
  refine callP_i (rmay_ok far l (by omega)) ?_
  by_cases hm : mayB far l = true
  · by_cases h0 : at_ < 0
    · simp [hm, h0]
    · simp [hm, h0]
      refine loopK [0, 1] (RmOk at_ l) (fun p => [(8, .int .i64 (p.i : Nat)), (7, .int .i64 p.m)]) (fun _ => []) (fun _ => []) (fun p => l.length - p.i) ⟨0, 0⟩ ⟨by simp, ⟨0, -1, hm, by simp, by simp, by simp [far]⟩, by simp, rfl⟩ (by simp) [] (by simp) (by simp) ?_
      rintro ⟨i, m⟩ nx g ⟨hi, ⟨e, t, hmg, he0, hme, hef⟩, hm2, hg⟩ - -
      dsimp only at hi hmg he0 hme hef hm2 hg
      simp
      by_cases h4 : i < l.length
      · have w : IntKind.i64.wrap ((i : Int) + 1) = ((i + 1 : Nat) : Int) := by rw [wrap64_in (by omega) (by omega)]; omega
        rw [drop_cons h4] at hmg hg
        have htx := ht l[i] (List.getElem_mem h4)
        obtain ⟨⟨x, y, tx⟩, hx⟩ : ∃ x, x = l[i] := ⟨_, rfl⟩
        rw [← hx] at hmg hg htx
        have htx : tx.size ≤ 200 := htx
        simp only [mayG, Bool.and_eq_true, decide_eq_true_eq] at hmg
        obtain ⟨⟨⟨⟨m1, m2⟩, m3⟩, m4⟩, m5⟩ := hmg
        unfold far at m4
        simp only [rmovG, dOf] at hg
        have wd : IntKind.i64.wrap (y - x) = y - x := wrap64_in (by omega) (by omega)
        have wd2 : IntKind.i64.wrap ((tx.size : Int) - (y - x)) = (tx.size : Int) - (y - x) := wrap64_in (by omega) (by omega)
        have wd3 : IntKind.i64.wrap (m + ((tx.size : Int) - (y - x))) = m + ((tx.size : Int) - (y - x)) := wrap64_in (by omega) (by omega)
        by_cases c1 : x ≤ at_
        · by_cases c2 : at_ < y
          · rw [if_pos ⟨c1, c2⟩] at hg
            simp [h4, edtV, ← hx, c1, c2]
            simp [hm, h0, hg]
          · have c3 : y ≤ at_ := by omega
            rw [if_neg (by omega), if_pos c3] at hg
            simp [h4, edtV, ← hx, c1, c2, c3]
            refine ⟨by kernel_rfl, ?_⟩
            exact againK_i ⟨i + 1, m + (tx.size - (y - x))⟩ _ ⟨h4, ⟨y, x, m5, by omega, by dsimp only; omega, by unfold far; omega⟩, by dsimp only; omega, hg⟩ (by dsimp only; omega) (by simp [w, wd, wd2, wd3]) rfl (by simp)
        · have c3 : ¬ y ≤ at_ := by omega
          rw [if_neg (by omega), if_neg c3] at hg
          simp [h4, edtV, ← hx, c1, c3]
          exact againK_i ⟨i + 1, m⟩ _ ⟨h4, ⟨y, x, m5, by omega, by dsimp only; omega, by unfold far; omega⟩, by dsimp only; omega, hg⟩ (by dsimp only; omega) (by simp [w]) rfl (by simp)
      · have : i = l.length := by omega
        subst this
        rw [List.drop_length] at hg
        simp [hm, h0, hg, rmovG]
  · simp [hm]
end Go.Proofs.AL
