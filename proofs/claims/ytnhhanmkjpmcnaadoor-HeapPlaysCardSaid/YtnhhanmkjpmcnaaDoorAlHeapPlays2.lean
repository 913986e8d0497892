/- What the functions that the law HeapPlays reaches compute, and the law (part 2). -/
import Derived.Test.YtnhhanmkjpmcnaaDoorAlHeapPlays1
namespace Go.Proofs.AL
open Go Go.RowKit Go.Proofs.Tryd
set_option maxRecDepth 100000
set_option linter.unusedSimpArgs false
/-! ### the reference's heap -/
def slotV (q : Fld) : List AV := [.int .i64 q.1.1, .str q.1.2, .int .i64 q.2.1, .int .i64 q.2.2]
def slots (l : List Fld) : List (List AV) := l.map slotV
@[simp] theorem slots_length (l : List Fld) : (slots l).length = l.length := by simp [slots]
@[simp] theorem slots_all (l : List Fld) : (∀ el ∈ slots l, el.length = 4) = True := by
  simp only [slots, List.mem_map, eq_iff_iff, iff_true]
  rintro _ ⟨v, _, rfl⟩
  rfl
@[simp] theorem slots_nil : slots [] = [] := rfl
@[simp] theorem slots_eq_nil (l : List Fld) : (slots l = []) = (l = []) := by simp [slots]
theorem slots_get {l : List Fld} {i : Nat} (h : i < (slots l).length) : (slots l)[i] = slotV (l[i]'(by simpa using h)) := by simp [slots]
attribute [simp] slots_get
theorem slots_snoc (l : List Fld) (q : Fld) : slots l ++ [slotV q] = slots (l ++ [q]) := by simp [slots]
theorem slots_pu : ∀ l : List Fld, puLL (slots l) = true
  | [] => rfl
  | x :: l => by
    have : slots (x :: l) = slotV x :: slots l := rfl
    rw [this]; simp [puLL, puL, pu, slotV, slots_pu l]
attribute [simp] slots_pu
@[simp] theorem slots_er (l : List Fld) : (slots l).map (List.map er1) = slots l := by simp [slots, slotV, er1]
/-- What the last slot of that name holds. -/
def lookR : List Fld → Int × ByteArray → Option (Int × Int)
  | [], _ => none
  | q :: l, k => match lookR l k with | some v => some v | none => if k = q.1 then some q.2 else none
theorem lookR_snoc (l : List Fld) (q : Fld) (k : Int × ByteArray) : lookR (l ++ [q]) k = if k = q.1 then some q.2 else lookR l k := by
  induction l with
  | nil => simp [lookR]
  | cons p l ih =>
    simp only [List.cons_append, lookR, ih]
    by_cases e : k = q.1
    · simp [e]
    · simp [e]
def rmK (l : List Fld) (k : Int × ByteArray) : List Fld := l.filter fun q => decide (¬ k = q.1)
theorem lookR_rm (l : List Fld) (k k' : Int × ByteArray) (h : k' ≠ k) : lookR (rmK l k) k' = lookR l k' := by
  induction l with
  | nil => rfl
  | cons p l ih =>
    unfold rmK at ih ⊢
    rw [List.filter_cons]
    by_cases e : k = p.1
    · simp only [e, not_true, decide_false]
      rw [← e]
      simp only [Bool.false_eq_true, if_false, lookR]
      rw [ih, if_neg (fun e2 => h (e2.trans e.symm))]
      cases lookR l k' <;> rfl
    · simp only [e, not_false_iff, decide_true, if_true, lookR]
      rw [ih]
theorem lookR_put (l : List Fld) (k k' : Int × ByteArray) (x : Int × Int) : lookR (rmK l k ++ [(k, x)]) k' = if k' = k then some x else lookR l k' := by
  rw [lookR_snoc]
  by_cases e : k' = k
  · simp [e]
  · simp only [e, if_false]
    exact lookR_rm l k k' e
theorem lookR_drop (l : List Fld) (k : Int × ByteArray) (v : Int × Int) : ∀ j, lookR (l.drop j) k = some v → lookR l k = some v := by
  induction l with
  | nil => intro j h; simpa using h
  | cons p l ih =>
    intro j h
    cases j with
    | zero => simpa using h
    | succ j =>
      rw [List.drop_succ_cons] at h
      simp [lookR, ih j h]
theorem rmK_take (l : List Fld) (k : Int × ByteArray) (i : Nat) (h : i < l.length) : rmK (l.take (i + 1)) k = if k = l[i].1 then rmK (l.take i) k else rmK (l.take i) k ++ [l[i]] := by
  rw [List.take_succ_eq_append_getElem h]
  unfold rmK
  rw [List.filter_append]
  by_cases e : k = l[i].1
  · simp [e]
  · simp [e]
theorem rmK_len (l : List Fld) (k : Int × ByteArray) : (rmK l k).length ≤ l.length := List.length_filter_le _ _
theorem robject_ok (cl : List ByteArray) (l : List Fld) (a b : Int) : ACall cx 26 [.agg [.sl 0 (strs cl), .sl 0 (slots l)], .agg [.int .i64 a, .int .i64 b]] (.bool (isObj cl a b)) none := by
  refine ACall.wpc (C := cx) T.func_26 (by kernel_rfl) rfl (by rfl) ?_
  by_cases e1 : a = 3
  · by_cases e2 : 1 ≤ b
    · simp [f26, e1, e2, isObj]
    · simp [f26, e1, e2, isObj]
  · have e1' : (a == 3) = false := by simp [e1]
    simp [f26, e1', e1, isObj]
theorem rwhich_ok (cl : List ByteArray) (l : List Fld) (a b : Int) : ACall cx 24 [.agg [.sl 0 (strs cl), .sl 0 (slots l)], .agg [.int .i64 a, .int .i64 b]] (.tup [.int .i64 (which cl a b).1, .int .i64 (which cl a b).2]) none := by
  refine ACall.wpc (C := cx) T.func_24 (by kernel_rfl) rfl (by rfl) ?_
  simp [f24]
  refine callP_i (robject_ok cl l a b) ?_
  by_cases h : isObj cl a b = true
  · simp [h, which]
  · simp [h]
    by_cases h0 : a = 0
    · simp [h0]
      subst h0
      simp [which, isObj]
    · by_cases h3 : a = 3
      · subst h3
        simp
        simp [which, h]
      · by_cases h1 : a = 1 ∧ b = 0
        · obtain ⟨rfl, rfl⟩ := h1
          simp
          simp [which, isObj]
        · have n0 : (a == 0) = false := by simp [h0]
          have n3 : (a == 3) = false := by simp [h3]
          have hw : which cl a b = (0, 1) := by simp [which, h, h0, h3, h1]
          by_cases e : a = 1
          · have e2 : (b == 0) = false := by simp; intro e2; exact h1 ⟨e, e2⟩
            simp [n0, n3, e, e2]
            rw [← e, hw]
            simp [e]
          · have n1 : (a == 1) = false := by simp [e]
            simp [n0, n3, n1, hw]
theorem rclass_ok (cl : List ByteArray) (l : List Fld) (a b : Int) (hcl : cl.length ≤ 1000000) : ACall cx 17 [.agg [.sl 0 (strs cl), .sl 0 (slots l)], .agg [.int .i64 a, .int .i64 b]] (classV cl a b) none := by
  refine ACall.wpc (C := cx) T.func_17 (by kernel_rfl) rfl (by rfl) ?_
  simp [f17]
  refine callP_i (robject_ok cl l a b) ?_
  by_cases h : isObj cl a b = true
  · have h' := h
    simp [isObj] at h'
    obtain ⟨⟨rfl, h2⟩, h3⟩ := h'
    have w : IntKind.i64.wrap (b - 1) = b - 1 := wrap64_in (by omega) (by omega)
    simp [h, w, show 1 ≤ b by omega, show b - 1 < cl.length by omega]
    simp [classV, h]
  · simp [h]
    simp [classV, h]
    rfl
def rgetV (cl : List ByteArray) (l : List Fld) (a b : Int) (s ty : ByteArray) : AV :=
  if (which cl a b).2 = 0 then .tup [(match lookR l ((which cl a b).1, s) with | some v => valV v | none => valV (firstK ty, 0)), .int .i64 0] else .tup [valV (0, 0), .int .i64 (which cl a b).2]
set_option maxHeartbeats 4000000 in
theorem rget_ok (cl : List ByteArray) (l : List Fld) (a b : Int) (s ty : ByteArray) (hl : l.length ≤ 1000000) : ACall cx 13 [.agg [.sl 0 (strs cl), .sl 0 (slots l)], .agg [.int .i64 a, .int .i64 b], .str s, .str ty] (rgetV cl l a b s ty) none := by
  refine ACall.wpc (C := cx) T.func_13 (by kernel_rfl) rfl (by rfl) ?_
  simp [f13]
  refine callP_i (rwhich_ok cl l a b) ?_
  by_cases h : (which cl a b).2 = 0
  · have w0 : IntKind.i64.wrap ((l.length : Int) - 1) = (l.length : Int) - 1 := wrap64_in (by omega) (by omega)
    simp [h, w0]
    refine loopK [2, 3, 4, 8, 9, 10, 11] (fun (j : Nat) _ => j ≤ l.length ∧ lookR (l.drop j) ((which cl a b).1, s) = none) (fun j => [(12, .int .i64 ((j : Int) - 1))]) (fun _ => [[.sl 0 (strs cl), .sl 0 (slots l)], [.int .i64 a, .int .i64 b], [.int .i64 0, .int .i64 0]]) (fun _ => []) (fun j => j) l.length ⟨Nat.le_refl _, by simp [lookR]⟩ (by simp) [] (by simp) (by simp) ?_
    rintro j nx g ⟨hj, hlr⟩ - -
    cases j with
    | zero =>
      simp
      refine callP_i (refFirst_ok ty) ?_
      simp at hlr
      simp [rgetV, h, hlr, valV]
    | succ j =>
      have e1 : ((j + 1 : Nat) : Int) - 1 = (j : Int) := by omega
      have w1 : IntKind.i64.wrap ((j : Int) - 1) = (j : Int) - 1 := wrap64_in (by omega) (by omega)
      have hj' : j < l.length := hj
      have hd : l.drop j = l[j] :: l.drop (j + 1) := List.drop_eq_getElem_cons hj'
      have hlr' : lookR (l.drop j) ((which cl a b).1, s) = if ((which cl a b).1, s) = l[j].1 then some l[j].2 else none := by rw [hd]; simp only [lookR, hlr]
      rw [e1]
      by_cases e2 : l[j].1.1 = (which cl a b).1
      · by_cases e3 : l[j].1.2 = s
        · have e4 : ((which cl a b).1, s) = l[j].1 := Prod.ext e2.symm e3.symm
          rw [if_pos e4] at hlr'
          have hv := lookR_drop _ _ _ _ hlr'
          simp [hj', slotV, e2, e3]
          trace_state
          simp [rgetV, h, hv, valV]
        · have e4 : ¬ ((which cl a b).1, s) = l[j].1 := fun e => e3 (congrArg Prod.snd e).symm
          rw [if_neg e4] at hlr'
          simp [hj', slotV, e2, e3]
          exact againK_i j g ⟨by omega, hlr'⟩ (by omega) (by simp [w1]) (by simp) (by simp)
      · have e4 : ¬ ((which cl a b).1, s) = l[j].1 := fun e => e2 (congrArg Prod.fst e).symm
        rw [if_neg e4] at hlr'
        have e2' : (l[j].1.1 == (which cl a b).1) = false := by simp [e2]
        simp [hj', slotV, e2']
        exact againK_i j g ⟨by omega, hlr'⟩ (by omega) (by simp [w1]) (by simp) (by simp)
  · have hb : ((which cl a b).2 != 0) = true := by simp [h]
    simp [hb, h]
    simp [rgetV, h, valV]
end Go.Proofs.AL
namespace Go.Proofs.AL
open Go Go.RowKit Go.Proofs.Tryd
set_option maxRecDepth 100000
set_option linter.unusedSimpArgs false
section
variable {g : Obs} {lv : Lvs} {nx : Nat} {lp : Lps} {N : Nat} {m : List (Nat × AV)} {kc ks : Nat} {cl : List ByteArray} {l : List Fld}
set_option maxHeartbeats 4000000 in
theorem rmake_j (c : ByteArray) (hk : kc ≠ 0) (hk2 : kc ≠ 2) (hkn : kc < nx) (hnx : 3 ≤ nx) (hcl : cl.length ≤ 1000) (hlv : look lv kc = some (.ty 9)) (hl0 : look lv 0 = none) : JCall cx 10 [.agg [.sl kc (strs cl), .sl ks (slots l)], .str c] (S N m g lv nx lp)
    (Rd (.tup [.agg [.sl nx (strs (cl ++ [c])), .sl ks (slots l)], .agg [.int .i64 3, .int .i64 (cl.length + 1)], .int .i64 0]) g ((nx, .ty 9) :: rmv kc lv) (nx + 1) lp) := by
  refine JCall.wpc (C := cx) T.func_10 (by kernel_rfl) rfl (by rfl) (fun hL => ?_)
  clear hL
  have hnk : ¬ nx = kc := by omega
  have hn0 : ¬ nx = 0 := by omega
  have h1 : ¬ (10000 : Int) ≤ cl.length := by omega
  simp [f10, h1, hk, hk2, hlv, hnk, hn0, hl0]
  refine ⟨b16 (by omega), ?_⟩
  refine ⟨?_, rfl, _, rfl, rfl, rfl, rfl⟩
  generalize List.length g = n
  revert n
  refine psafe_all 0 ?_ ?_
  · intro n; simp [Cls.sh]; omega
  · kernel_rfl
/-- What setting hands back. -/
def SetPost (g : Obs) (nx : Nat) (lp : Lps) (kc ks : Nat) (cl : List ByteArray) (l : List Fld) (k1 k2 : Nat) (a b : Int) (s : ByteArray) (x y : Int) (r : AV) (s2 : AS) : Prop :=
  if (which cl a b).2 = 0 then ∃ t t0 nx' rest, nx ≤ t ∧ t < nx' ∧ (t0 = 1 ∨ nx ≤ t0) ∧ r = .tup [.agg [.sl kc (strs cl), .sl t (slots (rmK l ((which cl a b).1, s) ++ [(((which cl a b).1, s), (x, y))]))], .int .i64 0] ∧ s2.ob = g ++ rest ∧ s2.live = look ((t, .ty 71) :: rmv t0 [(k1, .ty 9), (k2, .ty 9)]) ∧ s2.next = nx' ∧ s2.lp = lp
  else Rd (.tup [.agg [.sl kc (strs cl), .sl ks (slots l)], .int .i64 (which cl a b).2]) g [(k1, .ty 9), (k2, .ty 9)] nx lp r s2
set_option maxHeartbeats 4000000 in
theorem rset_j0 {k1 k2 : Nat} (a b : Int) (s : ByteArray) (x y : Int) (hnx : 3 ≤ nx) (h1 : k1 < nx) (h2 : k2 < nx) (h10 : k1 ≠ 0) (h20 : k2 ≠ 0) (hl : l.length ≤ 1000) : JCall cx 15 [.agg [.sl kc (strs cl), .sl ks (slots l)], .agg [.int .i64 a, .int .i64 b], .str s, .agg [.int .i64 x, .int .i64 y]] (S N m g [(k1, .ty 9), (k2, .ty 9)] nx lp)
    (SetPost g nx lp kc ks cl l k1 k2 a b s x y) := by
  refine JCall.wpc (C := cx) T.func_15 (by kernel_rfl) rfl (by rfl) (fun hL => ?_)
  clear hL
  simp [f15]
  refine callP_i (rwhich_ok cl l a b) ?_
  by_cases h : (which cl a b).2 = 0
  · simp [h]
    refine loopK [2, 4, 7, 8, 10] (fun (p : Nat × Nat) nx' => p.1 ≤ l.length ∧ nx ≤ nx' ∧ (p.2 = 1 ∧ rmK (l.take p.1) ((which cl a b).1, s) = [] ∨ nx ≤ p.2 ∧ p.2 < nx')) (fun p => [(13, .int .i64 (p.1 : Nat)), (12, .sl p.2 (slots (rmK (l.take p.1) ((which cl a b).1, s))))]) (fun _ => g ++ [[.sl kc (strs cl), .sl ks (slots l)], [.int .i64 a, .int .i64 b], [.int .i64 x, .int .i64 y], [.sl 1 [], .sl 1 []]]) (fun p => [(p.2, .ty 71), (k1, .ty 9), (k2, .ty 9)]) (fun p => l.length - p.1) (0, 1) ⟨by simp, Nat.le_refl _, .inl ⟨rfl, rfl⟩⟩ (by simp [rmK]) [] (by simp) (by simp) ?_
    rintro ⟨i, t⟩ nx' g' ⟨hi, hn, ht⟩ hnx' -
    dsimp only at hi hn ht
    have t0 : ¬ t = 0 := by omega
    have t2 : ¬ t = 2 := by omega
    have n0 : ¬ nx' = 0 := by omega
    have nt : ¬ nx' = t := by omega
    have a1 : ¬ nx' = k1 := by omega
    have a2 : ¬ nx' = k2 := by omega
    simp
    have rt := rmK_len (l.take i) ((which cl a b).1, s)
    have rt2 : (l.take i).length ≤ l.length := by simp; omega
    by_cases h4 : i < l.length
    · have w : IntKind.i64.wrap ((i : Int) + 1) = ((i + 1 : Nat) : Int) := by rw [wrap64_in (by omega) (by omega)]; omega
      have hr := rmK_take l ((which cl a b).1, s) i h4
      by_cases e4 : ((which cl a b).1, s) = l[i].1
      · have e2 : l[i].1.1 = (which cl a b).1 := (congrArg Prod.fst e4).symm
        have e3 : l[i].1.2 = s := (congrArg Prod.snd e4).symm
        rw [if_pos e4] at hr
        simp [h4, slotV, e2, e3]
        exact againK_i (i + 1, t) g' ⟨h4, hn, by rw [hr]; exact ht⟩ (by dsimp only; omega) (by simp [w, hr]) (by simp) (by simp)
      · rw [if_neg e4] at hr
        have hcase : l[i].1.1 ≠ (which cl a b).1 ∨ l[i].1.1 = (which cl a b).1 ∧ l[i].1.2 ≠ s := by
          by_cases e5 : l[i].1.1 = (which cl a b).1
          · exact .inr ⟨e5, fun e6 => e4 (Prod.ext e5.symm e6.symm)⟩
          · exact .inl e5
        have hsn := slots_snoc (rmK (l.take i) ((which cl a b).1, s)) l[i]
        rw [← hr] at hsn
        rcases ht with ⟨rfl, he⟩ | ⟨ht1, ht2⟩ <;> rcases hcase with e5 | ⟨e5, e6⟩
        · have e5' : (l[i].1.1 != (which cl a b).1) = true := by simp [e5]
          simp [h4, slotV, e5', he, n0, h10, h20, a1, a2]
          refine againK_i (i + 1, nx') g' ⟨h4, by omega, .inr ⟨by omega, by omega⟩⟩ (by dsimp only; omega) ?_ (by simp) (by simp [h10, h20, a1, a2, n0]; by_cases q1 : k1 = 1 <;> by_cases q2 : k2 = 1 <;> simp [q1, q2])
          simp [w, hr, he, slots, slotV]
        · simp [h4, slotV, e5, e6, he, n0, h10, h20, a1, a2]
          refine againK_i (i + 1, nx') g' ⟨h4, by omega, .inr ⟨by omega, by omega⟩⟩ (by dsimp only; omega) ?_ (by simp) (by simp [h10, h20, a1, a2, n0]; by_cases q1 : k1 = 1 <;> by_cases q2 : k2 = 1 <;> simp [q1, q2])
          simp [w, hr, he, slots, slotV, e5]
        · have e5' : (l[i].1.1 != (which cl a b).1) = true := by simp [e5]
          simp [h4, slotV, e5', n0, h10, h20, a1, a2, t0, t2, nt]
          have k1t : ¬ k1 = t := by omega
          have k2t : ¬ k2 = t := by omega
          refine ⟨by omega, againK_i (i + 1, nx') g' ⟨h4, by omega, .inr ⟨by omega, by omega⟩⟩ (by dsimp only; omega) ?_ (by simp) (by simp [h10, h20, a1, a2, n0, k1t, k2t])⟩
          simp [w, ← hsn, slotV]
        · simp [h4, slotV, e5, e6, n0, h10, h20, a1, a2, t0, t2, nt]
          have k1t : ¬ k1 = t := by omega
          have k2t : ¬ k2 = t := by omega
          refine ⟨by omega, againK_i (i + 1, nx') g' ⟨h4, by omega, .inr ⟨by omega, by omega⟩⟩ (by dsimp only; omega) ?_ (by simp) (by simp [h10, h20, a1, a2, n0, k1t, k2t])⟩
          simp [w, ← hsn, slotV, e5]
    · have : i = l.length := by omega
      subst this
      have hl2 : l.take l.length = l := List.take_length
      rw [hl2] at ht rt
      have hsn := slots_snoc (rmK l ((which cl a b).1, s)) (((which cl a b).1, s), (x, y))
      rcases ht with ⟨rfl, he⟩ | ⟨ht1, ht2⟩
      · simp [he, n0, h10, h20, a1, a2]
        unfold SetPost
        rw [if_pos h]
        refine ⟨nx', 1, nx' + 1, _, hn, by omega, .inl rfl, ?_, rfl, ?_, rfl, rfl⟩
        · simp [he, slots, slotV]
        · show look _ = look _
          refine congrArg look ?_
          simp [rmv]
      · have k1t : ¬ k1 = t := by omega
        have k2t : ¬ k2 = t := by omega
        simp [n0, h10, h20, a1, a2, t0, t2, nt, k1t, k2t]
        unfold SetPost
        rw [if_pos h]
        refine ⟨by omega, nx', t, nx' + 1, _, hn, by omega, .inr ht1, ?_, rfl, ?_, rfl, rfl⟩
        · simp [← hsn, slotV]
        · show look _ = look _
          refine congrArg look ?_
          simp [rmv, k1t, k2t]
  · have hb : ((which cl a b).2 != 0) = true := by simp [h]
    simp [hb, h]
    unfold SetPost
    rw [if_neg h]
    exact ⟨by simp, _, rfl, rfl, rfl, rfl⟩
/-- The row of slots needn't be told of. -/
def SetPost' (g : Obs) (nx : Nat) (lp : Lps) (kc ks : Nat) (cl : List ByteArray) (l : List Fld) (k1 k2 : Nat) (a b : Int) (s : ByteArray) (x y : Int) (r : AV) (s2 : AS) : Prop :=
  if (which cl a b).2 = 0 then ∃ t nx' rest, nx ≤ nx' ∧ r = .tup [.agg [.sl kc (strs cl), .sl t (slots (rmK l ((which cl a b).1, s) ++ [(((which cl a b).1, s), (x, y))]))], .int .i64 0] ∧ s2.ob = g ++ rest ∧ s2.live = look [(k1, .ty 9), (k2, .ty 9)] ∧ s2.next = nx' ∧ s2.lp = lp
  else Rd (.tup [.agg [.sl kc (strs cl), .sl ks (slots l)], .int .i64 (which cl a b).2]) g [(k1, .ty 9), (k2, .ty 9)] nx lp r s2
theorem JCall.weakL {C : Cx} {f : FuncId} {args : List AV} {s : AS} {K L : AV → AS → Prop} (h : JCall C f args s K) (hk : ∀ r s2, K r s2 → ∃ s3, AS.le s3 s2 ∧ L r s3) : JCall C f args s L :=
  ⟨h.1, fun E G a w vs hR hl hV => (h.2 E G a w vs hR hl hV).mono fun e w' ⟨v, res, s2, G', h1, h2, h3, h4⟩ => by
    obtain ⟨s3, q1, q2⟩ := hk res s2 h2
    exact ⟨v, res, s3, G', h1, q2, h3.weak ⟨rfl, fun _ _ h => h, q1.ob, q1.live, q1.next, q1.lp⟩, h4⟩⟩
theorem rset_j {k1 k2 : Nat} (a b : Int) (s : ByteArray) (x y : Int) (hnx : 3 ≤ nx) (h1 : k1 < nx) (h2 : k2 < nx) (h10 : k1 ≠ 0) (h20 : k2 ≠ 0) (hl : l.length ≤ 1000) : JCall cx 15 [.agg [.sl kc (strs cl), .sl ks (slots l)], .agg [.int .i64 a, .int .i64 b], .str s, .agg [.int .i64 x, .int .i64 y]] (S N m g [(k1, .ty 9), (k2, .ty 9)] nx lp)
    (SetPost' g nx lp kc ks cl l k1 k2 a b s x y) := by
  refine (rset_j0 a b s x y hnx h1 h2 h10 h20 hl).weakL (fun r s2 h => ?_)
  unfold SetPost at h
  unfold SetPost'
  by_cases hw : (which cl a b).2 = 0
  · rw [if_pos hw] at h
    obtain ⟨t, t0, nx', rest, ht1, ht2, ht3, rfl, e1, e2, e3, e4⟩ := h
    refine ⟨{ s2 with live := look [(k1, .ty 9), (k2, .ty 9)] }, ⟨rfl, fun _ _ h => h, rfl, fun i e he => ?_, rfl, fun _ _ h => h⟩, ?_⟩
    · have he : (if k1 = i then some (Tk.ty 9) else if k2 = i then some (Tk.ty 9) else none) = some e := he
      show (i = 1 ∧ isTy e = true) ∨ s2.live i = some e
      rw [e2]
      have hee : e = .ty 9 := by
        by_cases q1 : k1 = i
        · rw [if_pos q1] at he; exact (Option.some.inj he).symm
        · rw [if_neg q1] at he
          by_cases q2 : k2 = i
          · rw [if_pos q2] at he; exact (Option.some.inj he).symm
          · rw [if_neg q2] at he; cases he
      have hik : k1 = i ∨ k2 = i := by
        by_cases q1 : k1 = i
        · exact .inl q1
        · by_cases q2 : k2 = i
          · exact .inr q2
          · rw [if_neg q1, if_neg q2] at he; cases he
      subst hee
      by_cases i1 : i = 1
      · exact .inl ⟨i1, rfl⟩
      · have h0 : ¬ t = i := by omega
        have h01 : ¬ k1 = t0 ∨ k1 = 1 := by omega
        have h02 : ¬ k2 = t0 ∨ k2 = 1 := by omega
        refine .inr ?_
        rcases hik with rfl | rfl
        · have q : ¬ k1 = t0 := by omega
          simp [look, rmv, h0, q]
        · have q : ¬ k2 = t0 := by omega
          by_cases q2 : k1 = t0
          · simp [look, rmv, h0, q, q2]
          · by_cases q3 : k1 = k2
            · simp [look, rmv, h0, q, q2, q3]
            · simp [look, rmv, h0, q, q2, q3]
    · rw [if_pos hw]
      exact ⟨t, nx', rest, by omega, rfl, e1, rfl, e3, e4⟩
  · rw [if_neg hw] at h
    refine ⟨s2, ⟨rfl, fun _ _ h => h, rfl, fun _ _ h => .inr h, rfl, fun _ _ h => h⟩, ?_⟩
    rw [if_neg hw]
    exact h
end
theorem indepL_i {ops : Array Oper} {i j : Nat} {o1 o2 : Oper} {a b : Cls} (h1 : ops[i]? = some o1) (h2 : ops[j]? = some o2) (h : o1.apart ops o2 = true) (hc : clash a b = false) : indepL ops i j a b = true := by
  unfold indepL
  rw [h1, h2]
  simp [h, hc]
end Go.Proofs.AL
