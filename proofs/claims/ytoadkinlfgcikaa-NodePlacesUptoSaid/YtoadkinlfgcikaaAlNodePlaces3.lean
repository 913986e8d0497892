/- What the functions that the law NodePlaces reaches compute, and the law (part 3). -/
import Derived.Test.YtoadkinlfgcikaaAlNodePlaces2
namespace Go.Proofs.AL
open Go Go.RowKit Go.Proofs.Try
set_option maxRecDepth 100000
set_option linter.unusedSimpArgs false
def ints (l : List Int) : List (List AV) := l.map fun x => [.int .i64 x]
@[simp] theorem ints_length (l : List Int) : (ints l).length = l.length := by simp [ints]
@[simp] theorem ints_all (l : List Int) : (∀ el ∈ ints l, el.length = 1) = True := by simp [ints]
@[simp] theorem ints_nil : ints [] = [] := rfl
theorem ints_one (n : Int) : [[AV.int .i64 n]] = ints [n] := rfl
@[simp] theorem ints_snoc (l : List Int) (n : Int) : ints l ++ [[AV.int .i64 n]] = ints (l ++ [n]) := by simp [ints]
@[simp] theorem ints_app (a b : List Int) : ints a ++ ints b = ints (a ++ b) := by simp [ints]
@[simp] theorem ints_drop (l : List Int) (i : Nat) : (ints l).drop i = ints (l.drop i) := by simp [ints, List.map_drop]
@[simp] theorem ints_take (l : List Int) (i : Nat) : (ints l).take i = ints (l.take i) := by simp [ints, List.map_take]
@[simp] theorem ints_eq_nil (l : List Int) : (ints l = []) = (l = []) := by simp [ints]
theorem ints_pu : ∀ l : List Int, puLL (ints l) = true
  | [] => rfl
  | x :: l => by
    have : ints (x :: l) = [.int .i64 x] :: ints l := rfl
    rw [this]; simp [puLL, puL, pu, ints_pu l]
attribute [simp] ints_pu
theorem ints_getD {l : List Int} {i : Nat} (h : i < l.length) : (ints l).getD i [] = [.int .i64 l[i]] := by simp [ints, h]
theorem ints_get {l : List Int} {i : Nat} (h : i < (ints l).length) : (ints l)[i] = [.int .i64 (l[i]'(by simpa using h))] := by simp [ints]
attribute [simp] ints_get
@[simp] theorem ints_er (l : List Int) : (ints l).map (List.map er1) = ints l := by simp [ints, er1]
@[simp high] theorem ints_idx {tk : Nat} {l : List Int} {k : IntKind} {n : Int} : idxAddr prog 37 (.sl tk (ints l)) (.int k n) = if 0 ≤ n ∧ n < l.length then some (.cptr [.int .i64 (l.getD n.toNat 0)]) else none := by
  rw [idxAddr_low]
  simp only [T.elT_37, T.szOf_3, Option.bind_some, ints_length, ints_all, if_true]
  by_cases h : 0 ≤ n ∧ n < l.length
  · rw [if_pos h, if_pos h, ints_getD (by omega)]
    have : n.toNat < l.length := by omega
    simp [this]
  · rw [if_neg h, if_neg h]
theorem sameI_go (a b : List Int) : ACall cx 31 [.sl 0 (ints a), .sl 0 (ints b)] (.bool (decide (a = b))) none := by
  refine ACall.wpl (C := cx) T.func_31 (by kernel_rfl) rfl (by rfl) (fun hL => ?_)
  have hlen : (a.length : Int) ≤ 9223372036854775807 := by simpa using hL.tm 0 0 (ints a) (by simp)
  clear hL
  simp [f31]
  refine split2_i (fun h1 => ?_) (fun h1 => ?_) <;> simp [h1]
  · simp at h1
    intro e; subst e; exact h1 rfl
  have hl : a.length = b.length := by simp at h1; omega
  refine loopK [0, 1] (fun i _ => i ≤ a.length ∧ a.take i = b.take i) (fun i => [(5, .int .i64 (i : Nat))]) (fun _ => []) (fun _ => []) (fun i => a.length - i) 0 ⟨by simp, by simp⟩ (by simp) [] rfl (by simp) ?_
  rintro i nx g ⟨hi, hd⟩ - -
  simp
  refine split2_i (fun h3 => ?_) (fun h3 => ?_) <;> simp [h3]
  · simp at h3
    have h3' : i < b.length := by omega
    have he := take_eq_succ h3 h3' hd
    simp [h3, h3']
    refine ⟨by kernel_rfl, ?_⟩
    refine split2_i (fun h4 => ?_) (fun h4 => ?_) <;> simp [h4]
    · simp at h4
      intro e; subst e; exact h4 rfl
    · simp at h4
      exact againK_i (i + 1) _ ⟨h3, by rw [he]; exact h4⟩ (by omega) (by simp [wrap64_i h3 hlen]) rfl (by simp)
  · simp at h3
    have : i = a.length := by omega
    subst this
    rw [List.take_length, hl, List.take_length] at hd
    exact hd
@[simp] theorem zRow_length : zRow.length = 9 := rfl
/-! ### ways -/
def Nd.get : Nd → List Int → Option Nd
  | x, [] => some x
  | x, k :: w => if 0 ≤ k ∧ k < x.kids.length then (x.kids.getD k.toNat default).get w else none
def getAV (o : Option Nd) : AV := .tup [.agg (o.getD default).cells, .bool o.isSome]
set_option maxHeartbeats 4000000 in
theorem get_ok (x : Nd) (w : List Int) : ACall cx 43 [.agg x.cells, .sl 0 (ints w)] (getAV (x.get w)) none := by
  refine ACall.wpl (C := cx) T.func_43 (by kernel_rfl) rfl (by rfl) (fun hL => ?_)
  have hlen : (w.length : Int) ≤ 9223372036854775807 := by simpa using hL.tm 1 0 (ints w) (by simp)
  clear hL
  simp [f43]
  refine loopK [2, 4, 8, 9] (fun (p : Nat × Nd) _ => p.1 ≤ w.length ∧ p.2.get (w.drop p.1) = x.get w) (fun p => [(10, .int .i64 (p.1 : Nat))]) (fun p => [p.2.cells, zRow]) (fun _ => []) (fun p => w.length - p.1) (0, x) ⟨by simp, by simp⟩ (by simp) [] rfl (by simp) ?_
  rintro ⟨i, y⟩ nx g ⟨hi, hd⟩ - -
  dsimp only at hi hd
  simp
  refine split2_i (fun h3 => ?_) (fun h3 => ?_) <;> simp [h3]
  · simp at h3
    rw [List.drop_eq_getElem_cons h3, Nd.get] at hd
    simp [h3]
    by_cases h4 : w[i] < 0
    · have h5 : ¬ (0 ≤ w[i] ∧ w[i] < y.kids.length) := by omega
      rw [if_neg h5] at hd
      simp [h4, ← hd, getAV]
    by_cases h6 : (y.kids.length : Int) ≤ w[i]
    · have h5 : ¬ (0 ≤ w[i] ∧ w[i] < y.kids.length) := by omega
      rw [if_neg h5] at hd
      simp [h4, h6, ← hd, getAV]
    · have h5 : 0 ≤ w[i] ∧ w[i] < y.kids.length := by omega
      rw [if_pos h5] at hd
      obtain ⟨j, hj⟩ : ∃ j : Nat, w[i] = j := ⟨w[i].toNat, by omega⟩
      have hjl : j < y.kids.length := by omega
      have hj0 : ¬ ((j : Int) < 0) := by omega
      have hj1 : ¬ ((y.kids.length : Int) ≤ (j : Int)) := by omega
      have e : y.kids.getD w[i].toNat default = y.kids[j] := by rw [hj]; simp [hjl]
      rw [e] at hd
      simp [hj, hj0, hj1, hjl]
      exact againK_i (i + 1, y.kids[j]) g ⟨h3, hd⟩ (by dsimp only; omega) (by simp [wrap64_i h3 hlen]) (by simp) (by simp)
  · simp at h3
    have : i = w.length := by omega
    subst this
    rw [List.drop_length, Nd.get] at hd
    simp [← hd, getAV]
set_option maxHeartbeats 4000000 in
theorem refGet_ok (x : Nd) (w : List Int) : ACall cx 28 [.agg x.cells, .sl 0 (ints w)] (getAV (x.get w)) none := by
  refine ACall.wpl (C := cx) T.func_28 (by kernel_rfl) rfl (by rfl) (fun hL => ?_)
  have hlen : (w.length : Int) ≤ 9223372036854775807 := by simpa using hL.tm 1 0 (ints w) (by simp)
  clear hL
  simp [f28]
  refine loopK [1, 2, 4] (fun (p : Nat × Nd) _ => p.1 ≤ w.length ∧ p.2.get (w.drop p.1) = x.get w) (fun p => [(6, .int .i64 (p.1 : Nat))]) (fun p => [p.2.cells, zRow]) (fun _ => []) (fun p => w.length - p.1) (0, x) ⟨by simp, by simp⟩ (by simp) [] rfl (by simp) ?_
  rintro ⟨i, y⟩ nx g ⟨hi, hd⟩ - -
  dsimp only at hi hd
  simp
  refine split2_i (fun h3 => ?_) (fun h3 => ?_) <;> simp [h3]
  · simp at h3
    rw [List.drop_eq_getElem_cons h3, Nd.get] at hd
    simp [h3]
    by_cases h4 : w[i] < 0
    · have h5 : ¬ (0 ≤ w[i] ∧ w[i] < y.kids.length) := by omega
      rw [if_neg h5] at hd
      simp [h3, h4]
      refine ⟨?_, ?_⟩
      · kernel_rfl
      simp [← hd, getAV]
    by_cases h6 : (y.kids.length : Int) ≤ w[i]
    · have h5 : ¬ (0 ≤ w[i] ∧ w[i] < y.kids.length) := by omega
      rw [if_neg h5] at hd
      simp [h3, h4, h6]
      refine ⟨?_, ?_⟩
      · kernel_rfl
      simp [← hd, getAV]
    · have h5 : 0 ≤ w[i] ∧ w[i] < y.kids.length := by omega
      rw [if_pos h5] at hd
      obtain ⟨j, hj⟩ : ∃ j : Nat, w[i] = j := ⟨w[i].toNat, by omega⟩
      have hjl : j < y.kids.length := by omega
      have hj0 : ¬ ((j : Int) < 0) := by omega
      have hj1 : ¬ ((y.kids.length : Int) ≤ (j : Int)) := by omega
      have e : y.kids.getD w[i].toNat default = y.kids[j] := by rw [hj]; simp [hjl]
      rw [e] at hd
      simp [h3, hj, hj0, hj1, hjl]
      refine ⟨?_, ?_⟩
      · kernel_rfl
      refine ⟨?_, ?_⟩
      · kernel_rfl
      exact againK_i (i + 1, y.kids[j]) g ⟨h3, hd⟩ (by dsimp only; omega) (by simp [wrap64_i h3 hlen]) (by simp) (by simp)
  · simp at h3
    have : i = w.length := by omega
    subst this
    rw [List.drop_length, Nd.get] at hd
    simp [← hd, getAV]
theorem nget_ok (x : Nd) (w : List Int) : ACall cx 27 [.agg x.cells, .sl 0 (ints w)] (getAV (x.get w)) none := by
  refine ACall.wpc (C := cx) T.func_27 (by kernel_rfl) rfl (by rfl) ?_
  simp [f27]
  refine callP_i (get_ok x w) ?_
  simp [getAV]
def Nd.has (at_ : Int) (x : Nd) : Bool := decide (x.from_ ≤ at_) && decide (at_ < x.to)
theorem has_ok (x : Nd) (n : Int) : ACall cx 45 [.agg x.cells, .int .i64 n] (.bool (x.has n)) none := by
  refine ACall.wpc (C := cx) T.func_45 (by kernel_rfl) rfl (by rfl) ?_
  simp [f45]
  repeat' ((with_reducible refine split2_i (fun h => ?_) (fun h => ?_)) <;> simp [h])
  all_goals (simp_all [Nd.has] <;> (try intros) <;> omega)
/-- The first of the kids from the i-th on that is so. -/
def firstAt (p : Nd → Bool) : List Nd → Nat → Int
  | [], _ => -1
  | x :: l, i => if p x then (i : Int) else firstAt p l (i + 1)
theorem firstAt_drop {p : Nd → Bool} {l : List Nd} {i : Nat} (h : i < l.length) : firstAt p (l.drop i) i = if p l[i] then (i : Int) else firstAt p (l.drop (i + 1)) (i + 1) := by
  rw [List.drop_eq_getElem_cons h, firstAt]
theorem firstAt_spec (p : Nd → Bool) : ∀ (l : List Nd) (i : Nat), firstAt p l i = -1 ∧ (∀ x ∈ l, p x = false) ∨ ∃ j, firstAt p l i = ((i + j : Nat) : Int) ∧ ∃ h : j < l.length, p l[j] = true
  | [], _ => .inl ⟨rfl, by simp⟩
  | x :: l, i => by
    by_cases h : p x = true
    · exact .inr ⟨0, by simp [firstAt, h], by simp, by simpa using h⟩
    · rcases firstAt_spec p l (i + 1) with ⟨h1, h2⟩ | ⟨j, h1, h2, h3⟩
      · exact .inl ⟨by simp [firstAt, h, h1], by simpa [h] using h2⟩
      · exact .inr ⟨j + 1, by rw [firstAt, if_neg h, h1]; omega, by simpa using h2, by simpa using h3⟩
theorem idxf_ok (l : List Nd) (g : FuncId) (c0 : AV) (cap : List AV) (hcap : (c0 :: cap).all isCp = true) (p : Nd → Bool) (hp : ∀ x : Nd, ACall cx g (.agg x.cells :: c0 :: cap) (.bool (p x)) none) :
    ACall cx 46 [.sl 0 (Nd.rows l), .fn (.func g) [] (c0 :: cap)] (.int .i64 (firstAt p l 0)) none := by
  have cpu := cp_pu hcap
  have cpe := cp_er hcap
  rw [List.map_cons] at cpe
  simp only [puL, Bool.and_eq_true] at cpu
  refine ACall.wpl (C := cx) T.func_46 (by kernel_rfl) rfl (by rfl) (fun hL => ?_)
  have hlen : (l.length : Int) ≤ 9223372036854775807 := by simpa using hL.tm 0 0 (Nd.rows l) (by simp)
  clear hL
  simp [f46]
  refine loopK [0, 1, 7] (fun i _ => i ≤ l.length ∧ firstAt p (l.drop i) i = firstAt p l 0) (fun i => [(8, .int .i64 (i : Nat))]) (fun _ => []) (fun _ => []) (fun i => l.length - i) 0 ⟨by simp, by simp⟩ (by simp) [] rfl (by simp) ?_
  rintro i nx g' ⟨hi, hd⟩ - -
  simp
  refine split2_i (fun h3 => ?_) (fun h3 => ?_) <;> simp [h3]
  · simp at h3
    rw [firstAt_drop h3] at hd
    simp [h3, cpu]
    refine jcallP_a (hp l[i]) (by simpa using cpe) (by simp [puL, pu, cpu]) ?_
    simp
    refine split2_i (fun h4 => ?_) (fun h4 => ?_) <;> simp [h4]
    · simp [h4] at hd
      exact hd.symm
    · simp [h4] at hd
      exact againK_i (i + 1) _ ⟨h3, hd⟩ (by omega) (by simp [wrap64_i h3 hlen]) rfl (by simp)
  · simp at h3
    have : i = l.length := by omega
    subst this
    rw [List.drop_length, firstAt] at hd
    exact hd.symm
theorem atC_ok (x : Nd) (n : Int) : ACall cx 47 [.agg x.cells, .cptr [.int .i64 n]] (.bool (x.has n)) none := by
  refine ACall.wpc (C := cx) T.func_47 (by kernel_rfl) rfl (by rfl) ?_
  simp [f47]
  refine callP_i (has_ok x n) ?_
  simp
mutual
def Nd.path (n : Int) : Nd → List Int
  | .mk _ _ _ _ _ _ _ _ l => Nd.pathL n l 0
def Nd.pathL (n : Int) : List Nd → Nat → List Int
  | [], _ => []
  | x :: l, i => if x.has n then (i : Int) :: x.path n else Nd.pathL n l (i + 1)
end
theorem Nd.pathL_first (n : Int) : ∀ (l : List Nd) (i : Nat), Nd.pathL n l i = if firstAt (Nd.has n) l i = -1 then [] else firstAt (Nd.has n) l i :: (l.getD ((firstAt (Nd.has n) l i).toNat - i) default).path n
  | [], i => by simp [Nd.pathL, firstAt]
  | x :: l, i => by
    rw [Nd.pathL, firstAt]
    by_cases h : x.has n = true
    · simp [h]
    · simp only [h, if_false, Bool.false_eq_true]
      rw [Nd.pathL_first n l (i + 1)]
      rcases firstAt_spec (Nd.has n) l (i + 1) with ⟨h1, _⟩ | ⟨j, h1, h2, _⟩
      · simp [h1]
      · rw [h1]
        have e1 : (((i + 1 + j : Nat) : Int)).toNat - (i + 1) = j := by omega
        have e2 : (((i + 1 + j : Nat) : Int)).toNat - i = j + 1 := by omega
        rw [e1, e2]; simp
theorem Nd.path_eq (n : Int) (x : Nd) : x.path n = if firstAt (Nd.has n) x.kids 0 = -1 then [] else firstAt (Nd.has n) x.kids 0 :: (x.kids.getD (firstAt (Nd.has n) x.kids 0).toNat default).path n := by
  cases x; rw [Nd.path, Nd.pathL_first]; rfl
mutual
theorem Nd.path_le (n : Int) : ∀ x : Nd, (x.path n).length + 1 ≤ x.count
  | .mk _ _ _ _ _ _ _ _ l => by have := Nd.pathL_le n l 0; rw [Nd.path, Nd.count]; omega
theorem Nd.pathL_le (n : Int) : ∀ (l : List Nd) (i : Nat), (Nd.pathL n l i).length ≤ Nd.countL l
  | [], _ => by simp [Nd.pathL]
  | x :: l, i => by
    have h1 := Nd.path_le n x
    have h2 := Nd.pathL_le n l (i + 1)
    rw [Nd.pathL, Nd.countL]
    split
    · simp; omega
    · omega
end
def Nd.way (n : Int) (x : Nd) : List Int := if x.has n then x.path n else []
theorem b8 {n : Nat} (h : n ≤ 10000000) : n * 8 ≤ 140737488355328 := by omega
set_option maxHeartbeats 4000000 in
theorem at_ok (x : Nd) (n : Int) (hb : x.count ≤ 10000000) : ACall cx 32 [.agg x.cells, .int .i64 n] (.sl 0 (ints (x.way n))) none := by
  refine ACall.wpl (C := cx) T.func_32 (by kernel_rfl) rfl (by rfl) (fun hL => ?_)
  clear hL
  simp [f32]
  refine loopK [2, 3] (fun (p : Nd × List Int × Nat) nx => p.2.1 ++ p.1.way n = x.way n ∧ (p.2.1 ≠ [] → p.1.has n = true) ∧ p.2.2 ≠ 0 ∧ p.2.2 ≠ 2 ∧ p.2.2 < nx) (fun p => [(5, .sl p.2.2 (ints p.2.1))]) (fun p => [p.1.cells, [.int .i64 n]]) (fun p => [(p.2.2, .ty 3)]) (fun p => (p.1.path n).length + 1) (x, [], 1) ⟨by simp, by simp, by simp, by simp, by simp⟩ (by simp) [] rfl (by simp) ?_
  rintro ⟨y, w, k⟩ nx g ⟨hw, hh, hk, hk2, hkn⟩ hnx -
  dsimp only at hw hh hk hk2 hkn
  simp
  refine callP_i (has_ok _ _) ?_
  simp
  by_cases h1 : y.has n = true
  · have hy : y.way n = y.path n := by simp [Nd.way, h1]
    rw [hy] at hw
    have hpe := Nd.path_eq n y
    simp [h1]
    refine jcallP_s (idxf_ok y.kids 47 (.cptr [.int .i64 n]) [] rfl (Nd.has n) (fun z => atC_ok z n)) (by simp) (by simp) rfl ?_
    simp
    rcases firstAt_spec (Nd.has n) y.kids 0 with ⟨h2, _⟩ | ⟨j, h2, h3, h4⟩
    · rw [h2] at hpe
      simp at hpe
      rw [hpe, List.append_nil] at hw
      simp [h2, hw]
    · rw [Nat.zero_add] at h2
      rw [h2] at hpe
      have hne : ¬ ((j : Int) = -1) := by omega
      simp [hne, h3] at hpe
      have hlt : ¬ ((j : Int) < 0) := by omega
      have hl : (w ++ y.path n).length ≤ x.count := by
        rw [hw]
        have := Nd.path_le n x
        simp only [Nd.way]
        split
        · omega
        · simp
      rw [hpe] at hl
      simp at hl
      have hkn' : ¬ nx = k := by omega
      have hnx0 : ¬ nx = 0 := by omega
      simp [h2, hlt, h3, hk, hk2, hkn', hnx0]
      refine ⟨b8 (by omega), ?_⟩
      refine againK_i (y.kids[j], w ++ [(j : Int)], nx) g ⟨?_, fun _ => h4, hnx0, by dsimp only; omega, by simp⟩ ?_ (by simp) (by simp) (by simp)
      · have e : Nd.way n y.kids[j] = Nd.path n y.kids[j] := by simp [Nd.way, h4]
        show w ++ [(j : Int)] ++ Nd.way n y.kids[j] = x.way n
        rw [← hw, hpe, e]
        simp
      · dsimp only; rw [hpe]; simp
  · have h1' : y.has n = false := by simpa using h1
    have hwn : w = [] := by
      cases w with
      | nil => rfl
      | cons a b => exact absurd (hh (by simp)) h1
    simp [h1']
    subst hwn
    simp [Nd.way, h1'] at hw
    simpa [Nd.way] using hw
end Go.Proofs.AL
namespace Go.Proofs.AL
open Go Go.RowKit Go.Proofs.Try
set_option maxRecDepth 100000
set_option linter.unusedSimpArgs false
set_option maxHeartbeats 4000000 in
theorem refAt_ok (x : Nd) (n : Int) (hb : x.count ≤ 10000000) : ACall cx 33 [.agg x.cells, .int .i64 n] (.sl 0 (ints (x.way n))) none := by
  refine ACall.wpl (C := cx) T.func_33 (by kernel_rfl) rfl (by rfl) (fun hL => ?_)
  clear hL
  simp [f33]
  by_cases h1 : x.has n = true
  rotate_left
  · have hw : x.way n = [] := by simp [Nd.way, h1]
    simp [Nd.has] at h1
    by_cases e1 : n < x.from_
    · simp [e1, hw]
    · have e2 : x.to ≤ n := h1 (by omega)
      simp [e1, e2, hw]
  have hw : x.way n = x.path n := by simp [Nd.way, h1]
  have h1' := h1
  simp [Nd.has] at h1'
  have e1 : ¬ n < x.from_ := by omega
  have e2 : ¬ x.to ≤ n := by omega
  simp [e1, e2]
  rw [hw]
  clear hw
  refine loopK [1, 2] (fun (p : Nd × List Int × Nat) nx => p.2.1 ++ p.1.path n = x.path n ∧ p.2.2 ≠ 0 ∧ p.2.2 ≠ 2 ∧ p.2.2 < nx) (fun p => [(5, .sl p.2.2 (ints p.2.1))]) (fun p => [p.1.cells]) (fun p => [(p.2.2, .ty 3)]) (fun p => (p.1.path n).length + 1) (x, [], 1) ⟨by simp, by simp, by simp, by simp⟩ (by simp) [] rfl (by simp) ?_
  rintro ⟨y, w, k⟩ nx g ⟨hw, hk, hk2, hkn⟩ hnx -
  dsimp only at hw hk hk2 hkn
  simp
  refine loopC_lens (fun hL => ?_)
  have hlen : (y.kids.length : Int) ≤ 9223372036854775807 := by simpa using hL.tm 19 0 (Nd.rows y.kids) (by simp)
  clear hL
  refine loopK [1, 2, 5] (fun r nx => r ≤ y.kids.length ∧ k < nx) (fun r => [(7, .int .i64 ((r : Int) - 1)), (6, .int .i64 (firstAt (Nd.has n) (y.kids.drop r) r))]) (fun _ => [y.cells]) (fun _ => [(k, .ty 3)]) (fun r => r) y.kids.length ⟨by simp, hkn⟩ (by simp [firstAt]; rw [wrap64_in (by omega) (by omega)]) g (by simp) (by simp) ?_
  rintro r nx2 g2 ⟨hr, hkn2⟩ hnx2 -
  simp
  by_cases hr0 : r = 0
  · subst hr0
    simp
    have hpe := Nd.path_eq n y
    rcases firstAt_spec (Nd.has n) y.kids 0 with ⟨h2, _⟩ | ⟨j, h2, h3, h4⟩
    · rw [h2] at hpe
      simp at hpe
      rw [hpe, List.append_nil] at hw
      simp [h2, hw]
    · rw [Nat.zero_add] at h2
      rw [h2] at hpe
      have hne : ¬ ((j : Int) = -1) := by omega
      simp [hne, h3] at hpe
      have hlt : ¬ ((j : Int) < 0) := by omega
      have hl : (w ++ y.path n).length ≤ x.count := by
        rw [hw]
        have := Nd.path_le n x
        omega
      rw [hpe] at hl
      simp at hl
      have hkn' : ¬ nx2 = k := by omega
      have hnx0 : ¬ nx2 = 0 := by omega
      simp [h2, hlt, h3, hk, hk2, hkn', hnx0]
      refine ⟨b8 (by omega), ?_⟩
      refine againK_i (y.kids[j], w ++ [(j : Int)], nx2) g2 ⟨?_, hnx0, by dsimp only; omega, by simp⟩ ?_ (by simp) (by simp) (by simp)
      · dsimp only; rw [← hw, hpe]; simp
      · dsimp only; rw [hpe]; simp
  · have hp1 : ¬ ((r : Int) - 1 < 0) := by omega
    obtain ⟨i, rfl⟩ : ∃ i, r = i + 1 := ⟨r - 1, by omega⟩
    have hi : i < y.kids.length := by omega
    have ei : ((i + 1 : Nat) : Int) - 1 = (i : Int) := by omega
    have wi : IntKind.i64.wrap ((i : Int) - 1) = (i : Int) - 1 := wrap64_in (by omega) (by omega)
    have hf := firstAt_drop (p := Nd.has n) hi
    have hp2 : (1 : Int) ≤ (i : Int) + 1 := by omega
    rw [ei]
    simp [hi, hp2]
    by_cases e1 : (y.kids[i]).from_ ≤ n
    · by_cases e2 : n < (y.kids[i]).to
      · have hh : (y.kids[i]).has n = true := by simp [Nd.has, e1, e2]
        rw [if_pos hh] at hf
        simp [hi, e1, e2]
        exact againK_i i g2 ⟨by omega, hkn2⟩ (by omega) (by simp [wi, hf]) rfl (by simp)
      · have hh : (y.kids[i]).has n = false := by simp [Nd.has, e2]
        simp [hh] at hf
        simp [hi, e1, e2]
        exact againK_i i g2 ⟨by omega, hkn2⟩ (by omega) (by simp [wi, hf]) rfl (by simp)
    · have hh : (y.kids[i]).has n = false := by simp [Nd.has, e1]
      simp [hh] at hf
      simp [hi, e1]
      exact againK_i i g2 ⟨by omega, hkn2⟩ (by omega) (by simp [wi, hf]) rfl (by simp)
theorem Nd.rows_get? {l : List Nd} {j : Nat} (h : j < l.length) : (Nd.rows l)[j]? = some l[j].cells := by simp [Nd.rows_map, h]
@[simp] theorem ints_tail (a : Int) (l : List Int) : (ints (a :: l)).tail = ints l := rfl
/-! ### another one there -/
def Nd.setKids (x : Nd) (l : List Nd) : Nd := .mk x.kind x.text x.type x.n x.from_ x.to x.at_ x.typeAt l
def Nd.put : Nd → List Int → Nd → Option Nd
  | _, [], y => some y
  | x, k :: w, y => if 0 ≤ k ∧ k < x.kids.length then ((x.kids.getD k.toNat default).put w y).map (fun z => x.setKids (x.kids.set k.toNat z)) else none
theorem Nd.get_one (x : Nd) (k : Int) : x.get [k] = if 0 ≤ k ∧ k < x.kids.length then some (x.kids.getD k.toNat default) else none := by
  rw [Nd.get]; rfl
theorem Nd.count_pos (x : Nd) : 0 < x.count := by rw [Nd.count_eq]; omega
set_option maxHeartbeats 4000000 in
theorem put_ok (w : List Int) : ∀ (x y : Nd), x.count ≤ 10000000 → ACall cx 29 [.agg x.cells, .sl 0 (ints w), .agg y.cells] (getAV (x.put w y)) none := by
  induction w with
  | nil =>
    intro x y hb
    refine ACall.wpr (C := cx) 24 T.func_29 (by kernel_rfl) rfl (by rfl) (fun hL => ?_)
    simp [f29, Nd.put, getAV]
  | cons k w ih =>
    intro x y hb
    refine ACall.wpr (C := cx) 24 T.func_29 (by kernel_rfl) rfl (by rfl) (fun hL => ?_)
    clear hL
    have hl1 : ((w.length : Int) + 1 == 0) = false := by rw [beq_eq_false_iff_ne]; omega
    have hl2 : (0 : Int) < (w.length : Int) + 1 := by omega
    simp [f29, hl1, hl2]
    refine callP_i (get_ok x [k]) ?_
    rw [Nd.get_one]
    have hz : (Nd.cells default) = [.int .i64 0, .str .empty, .str .empty, .int .i64 0, .int .i64 0, .int .i64 0, .int .i64 0, .int .i64 0, .sl 0 []] := rfl
    by_cases hk : 0 ≤ k ∧ k < x.kids.length
    rotate_left
    · rw [if_neg hk]
      simp [getAV]
      refine ⟨by kernel_rfl, ?_⟩
      simp [Nd.put, hk]
    obtain ⟨j, rfl⟩ : ∃ j : Nat, k = j := ⟨k.toNat, by omega⟩
    have hj : j < x.kids.length := by omega
    rw [if_pos hk]
    simp [getAV, hj]
    refine ⟨by kernel_rfl, ?_⟩
    have hc1 := Nd.count_get hj
    have hc2 := Nd.count_eq x
    refine ⟨by omega, ?_⟩
    refine callP_i (ih x.kids[j] y (by omega)) ?_
    have hput : x.put ((j : Int) :: w) y = ((x.kids[j]).put w y).map (fun z => x.setKids (x.kids.set j z)) := by
      rw [Nd.put, if_pos hk]; simp [hj]
    rw [hput]
    cases hp : (x.kids[j]).put w y with
    | none =>
      simp [getAV]
      kernel_rfl
    | some z =>
      simp [getAV]
      refine ⟨by kernel_rfl, ?_⟩
      have hne : x.kids ≠ [] := by intro e; rw [e] at hj; simp at hj
      refine callP_j (jcallP_in T.func_44 (by kernel_rfl) rfl (by rfl) (fun _ => ?_))
      simp [f44, hne, -nilQ]
      refine ⟨b104 (by have := Nd.len_count x.kids; omega), hj, ?_⟩
      rw [Nd.rows_get? hj]
      simp
      refine ⟨by kernel_rfl, ?_⟩
      simp [Nd.setKids]
set_option maxHeartbeats 4000000 in
theorem refPut_ok (w : List Int) : ∀ (x y : Nd), x.count ≤ 10000000 → ACall cx 30 [.agg x.cells, .sl 0 (ints w), .agg y.cells] (getAV (x.put w y)) none := by
  induction w with
  | nil =>
    intro x y hb
    refine ACall.wpr (C := cx) 24 T.func_30 (by kernel_rfl) rfl (by rfl) (fun hL => ?_)
    simp [f30, Nd.put, getAV]
  | cons k w ih =>
    intro x y hb
    refine ACall.wpr (C := cx) 24 T.func_30 (by kernel_rfl) rfl (by rfl) (fun hL => ?_)
    clear hL
    have hl1 : ((w.length : Int) + 1 == 0) = false := by rw [beq_eq_false_iff_ne]; omega
    have hl2 : (0 : Int) < (w.length : Int) + 1 := by omega
    by_cases hk : 0 ≤ k ∧ k < x.kids.length
    rotate_left
    · by_cases h4 : k < 0
      · simp [f30, hl1, hl2, h4]
        refine ⟨by kernel_rfl, ?_⟩
        simp [Nd.put, hk, getAV]
      · have h5 : (x.kids.length : Int) ≤ k := by omega
        simp [f30, hl1, hl2, h4, h5]
        refine ⟨by kernel_rfl, ?_⟩
        simp [Nd.put, hk, getAV]
    obtain ⟨j, rfl⟩ : ∃ j : Nat, k = j := ⟨k.toNat, by omega⟩
    have hj : j < x.kids.length := by omega
    have h4 : ¬ ((j : Int) < 0) := by omega
    have h5 : ¬ ((x.kids.length : Int) ≤ (j : Int)) := by omega
    simp [f30, hl1, hl2, h4, h5, hj]
    refine ⟨by kernel_rfl, ?_⟩
    have hc1 := Nd.count_get hj
    have hc2 := Nd.count_eq x
    refine ⟨by omega, ?_⟩
    refine callP_i (ih x.kids[j] y (by omega)) ?_
    have hput : x.put ((j : Int) :: w) y = ((x.kids[j]).put w y).map (fun z => x.setKids (x.kids.set j z)) := by
      rw [Nd.put, if_pos hk]; simp [hj]
    rw [hput]
    cases hp : (x.kids[j]).put w y with
    | none =>
      simp [getAV]
      kernel_rfl
    | some z =>
      simp [getAV]
      refine ⟨by kernel_rfl, ?_⟩
      have hne : x.kids ≠ [] := by intro e; rw [e] at hj; simp at hj
      simp [hne, hj]
      refine ⟨b104 (by have := Nd.len_count x.kids; omega), ?_⟩
      refine ⟨by kernel_rfl, ?_⟩
      simp [Nd.setKids]
end Go.Proofs.AL
