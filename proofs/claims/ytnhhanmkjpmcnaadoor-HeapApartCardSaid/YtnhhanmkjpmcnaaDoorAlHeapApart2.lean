/- What the functions that the law HeapApart reaches compute, and the law (part 2). -/
import Derived.Test.YtnhhanmkjpmcnaaDoorAlHeapApart1
namespace Go.Proofs.AL
open Go Go.RowKit Go.Proofs.Tryd
set_option maxRecDepth 100000
set_option linter.unusedSimpArgs false
theorem and_lt (n c : Int) (k : Nat) (hk : k < 1024) (hc : c = k) : ∃ m : Nat, m ≤ k ∧ IntKind.i64.wrap (((n % 2 ^ IntKind.i64.bits).toNat &&& (c % 2 ^ IntKind.i64.bits).toNat : Nat) : Int) = (m : Int) := by
  have hb : IntKind.i64.bits = 64 := rfl
  have h1 : (c % 2 ^ IntKind.i64.bits).toNat = k := by
    rw [hb, hc]
    have : (k : Int) % 2 ^ 64 = k := by omega
    rw [this]; simp
  have h2 := Nat.and_le_right (n := (n % 2 ^ IntKind.i64.bits).toNat) (m := k)
  refine ⟨(n % 2 ^ IntKind.i64.bits).toNat &&& k, h2, ?_⟩
  rw [h1, wrap64_in (by omega) (by omega)]
theorem lookK_put (l : List Fld) (k k' : Int × ByteArray) (x : Int × Int) : lookK (putK l k x) k' = if k' = k then some x else lookK l k' := by
  induction l with
  | nil => simp [putK, lookK]
  | cons q l ih =>
    unfold putK
    by_cases e : k = q.1
    · rw [if_pos e]
      simp only [lookK]
      rw [e]
      split <;> rfl
    · rw [if_neg e]
      simp only [lookK]
      rw [ih]
      by_cases e2 : k' = q.1
      · rw [if_pos e2, if_neg (fun h => e (h.symm.trans e2)), if_pos e2]
      · rw [if_neg e2, if_neg e2]
/-- A row of values. -/
def valRows (l : List (Int × Int)) : List (List AV) := l.map fun v => [.int .i64 v.1, .int .i64 v.2]
@[simp] theorem valRows_length (l : List (Int × Int)) : (valRows l).length = l.length := by simp [valRows]
@[simp] theorem valRows_all (l : List (Int × Int)) : (∀ el ∈ valRows l, el.length = 2) = True := by
  simp only [valRows, List.mem_map, eq_iff_iff, iff_true]
  rintro _ ⟨v, _, rfl⟩
  rfl
@[simp] theorem valRows_snoc (l : List (Int × Int)) (a b : Int) : valRows l ++ [[AV.int .i64 a, AV.int .i64 b]] = valRows (l ++ [(a, b)]) := by simp [valRows]
@[simp] theorem valRows_nil : valRows [] = [] := rfl
@[simp] theorem valRows_eq_nil (l : List (Int × Int)) : (valRows l = []) = (l = []) := by simp [valRows]
theorem valRows_get {l : List (Int × Int)} {i : Nat} (h : i < (valRows l).length) : (valRows l)[i] = [.int .i64 (l[i]'(by simpa using h)).1, .int .i64 (l[i]'(by simpa using h)).2] := by simp [valRows]
attribute [simp] valRows_get
def objs (i : Nat) : List (Int × Int) := (List.range i).map fun (j : Nat) => ((3 : Int), (j : Int) + 1)
@[simp] theorem objs_length (i : Nat) : (objs i).length = i := by simp [objs]
theorem objs_succ (i : Nat) : objs i ++ [(3, (i : Int) + 1)] = objs (i + 1) := by simp [objs, List.range_succ]
def idsF : List ByteArray := [⟨#[102]⟩, ⟨#[103]⟩, ⟨#[104]⟩]
theorem idsF_inj {p q : Nat} (hp : p < 3) (hq : q < 3) (h : idsF[p]'hp = idsF[q]'hq) : p = q := by
  have h1 : idsF[p]? = idsF[q]? := by
    have e1 : idsF[p]? = some (idsF[p]'hp) := List.getElem?_eq_getElem hp
    have e2 : idsF[q]? = some (idsF[q]'hq) := List.getElem?_eq_getElem hq
    rw [e1, e2, h]
  clear h
  have a1 : p = 0 ∨ p = 1 ∨ p = 2 := by omega
  have a2 : q = 0 ∨ q = 1 ∨ q = 2 := by omega
  clear hp hq
  rcases a1 with rfl | rfl | rfl <;> rcases a2 with rfl | rfl | rfl <;> first | rfl | (exfalso; revert h1; decide +kernel)
/-- What is set: of the first i objects all, of the next one q fields. -/
def Filled (l : List Fld) (i q : Nat) : Prop := ∀ (j p : Nat) (hp : p < 3), (j < i ∨ (j = i ∧ p < q)) → lookK l ((j : Int) + 1, idsF[p]'hp) = some (1, 10 * (j : Int) + p)
theorem Filled.step {l : List Fld} {i q : Nat} (h : Filled l i q) (hq : q < 3) : Filled (putK l ((i : Int) + 1, idsF[q]'hq) (1, 10 * (i : Int) + q)) i (q + 1) := by
  intro j p hp hjp
  rw [lookK_put]
  by_cases e : j = i ∧ p = q
  · obtain ⟨rfl, rfl⟩ := e
    rw [if_pos rfl]
  · have hj : j < i ∨ (j = i ∧ p < q) := by omega
    rw [if_neg ?_]
    · exact h j p hp hj
    · intro h2
      rw [Prod.ext_iff] at h2
      have h3 : (j : Int) + 1 = (i : Int) + 1 := h2.1
      have h4 : idsF[p]'hp = idsF[q]'hq := h2.2
      apply e
      exact ⟨by omega, idsF_inj hp hq h4⟩
theorem Filled.next {l : List Fld} {i : Nat} (h : Filled l i 3) : Filled l (i + 1) 0 := fun j p hp hj => h j p hp (by omega)
theorem which_obj {cl : List ByteArray} {i : Nat} (h : i < cl.length) : which cl 3 ((i : Int) + 1) = ((i : Int) + 1, 0) := by
  have : isObj cl 3 ((i : Int) + 1) = true := by simp [isObj]; omega
  simp [which, this]
set_option maxHeartbeats 4000000 in
theorem apart_ok (hw : Awake) (n a b : Int) : ACall cx 5 [.int .i64 n, .int .i64 a, .int .i64 b] (.bool true) none := by
  obtain ⟨m, hm, hme⟩ := and_lt n 15 15 (by decide) rfl
  obtain ⟨ma, hma, hmae⟩ := and_lt a 1023 1023 (by decide) rfl
  obtain ⟨mb, hmb, hmbe⟩ := and_lt b 1023 1023 (by decide) rfl
  have hm2 : IntKind.i64.wrap (2 + (m : Int)) = ((m + 2 : Nat) : Int) := by rw [wrap64_in (by omega) (by omega)]; omega
  refine ACall.wpc (C := cx) T.func_5 (by kernel_rfl) rfl (by rfl) ?_
  simp [f5]
  refine callP_i hw ?_
  simp
  refine callP_j (jcallP_in T.func_8 (by kernel_rfl) rfl (by rfl) (fun _ => ?_))
  simp [f8]
  refine ⟨by decide, ?_⟩
  rw [hme, hm2, show [[AV.str ⟨#[102]⟩], [AV.str ⟨#[103]⟩], [AV.str ⟨#[104]⟩]] = strs idsF from rfl]
  have hids : idsF.length = 3 := rfl
  refine loopK [1, 2, 8, 9, 11] (fun (p : Nat × Nat × Nat × List Fld) nx => p.1 ≤ m + 2 ∧ p.2.1 ≠ 0 ∧ p.2.1 ≠ 2 ∧ p.2.1 < nx ∧ p.2.2.1 ≠ 0 ∧ p.2.2.1 ≠ 2 ∧ p.2.2.1 < nx ∧ (p.2.1 = 1 ∧ p.2.2.1 = 1 ∨ p.2.1 ≠ p.2.2.1 ∧ p.2.1 ≠ 1 ∧ p.2.2.1 ≠ 1) ∧ Filled p.2.2.2 p.1 0)
    (fun p => [(12, .int .i64 (p.1 : Nat)), (10, .sl p.2.2.1 (valRows (objs p.1)))]) (fun p => hob p.2.2.2 p.2.1 (List.replicate p.1 ⟨#[65]⟩) []) (fun p => [(p.2.1, .ty 9), (p.2.2.1, .ty 31)]) (fun p => m + 2 - p.1) (0, 1, 1, []) ⟨by simp, by simp, by simp, by simp, by simp, by simp, by simp, .inl ⟨rfl, rfl⟩, fun j p hp h => by omega⟩ (by simp [objs]) _ rfl (by simp) ?_
  rintro ⟨i, k, kk, l⟩ nx g ⟨hi, hk, hk2, hkn, hkk, hkk2, hkkn, hcase, hfill⟩ hnx -
  dsimp only at hi hk hk2 hkn hkk hkk2 hkkn hcase hfill
  simp
  by_cases h4 : i < m + 2
  · have h4' : (i : Int) < (m : Int) + 2 := by omega
    have w : IntKind.i64.wrap ((i : Int) + 1) = ((i + 1 : Nat) : Int) := by rw [wrap64_in (by omega) (by omega)]; omega
    simp [h4']
    refine jcallP_i (make_j (cl := List.replicate i ⟨#[65]⟩) (g := g) (k := k) ⟨#[65]⟩ hk hk2 hkn hnx (by simp; omega) (by simp) (by simp [hk, hkk])) ?_
    intro r s2 h
    rw [if_pos (by simp; omega)] at h
    obtain ⟨rfl, rest, e1, e2, e3, e4⟩ := h
    rw [S_ret e1 e2 e3 e4]
    have n0 : ¬ nx = 0 := by omega
    have n1 : ¬ nx = kk := by omega
    have n2 : ¬ nx + 1 = 0 := by omega
    have n3 : ¬ nx = 1 := by omega
    have bb := b16 (n := i + 1) (by omega)
    have hwo := which_obj (cl := List.replicate i ⟨#[65]⟩ ++ [⟨#[65]⟩]) (i := i) (by simp)
    rcases hcase with ⟨rfl, rfl⟩ | ⟨hc1, hc2, hc3⟩
    all_goals
      first
        | (have hc1' : ¬ kk = k := fun e => hc1 e.symm
           simp [n0, n1, hkk, hkk2, hc1', bb])
        | simp [n0, n1, n3, bb]
      refine loopK [1, 2, 8, 9, 10, 11, 12, 13] (fun (p : Nat × List Fld) nx' => p.1 ≤ 3 ∧ nx + 1 < nx' ∧ Filled p.2 i p.1) (fun p => [(15, .int .i64 (p.1 : Nat))]) (fun p => hob p.2 nx (List.replicate i ⟨#[65]⟩ ++ [⟨#[65]⟩]) (g ++ (rest ++ [[.int .i64 3, .int .i64 ((i : Int) + 1)]]))) (fun _ => [(nx + 1, .ty 31), (nx, .ty 9)]) (fun p => 3 - p.1) (0, l) ⟨by simp, by omega, hfill⟩ (by simp) [] (by simp) (by simp) ?_
      rintro ⟨q, l'⟩ nx2 g2 ⟨hq, hnn, hf⟩ hnx2 -
      dsimp only at hq hnn hf
      simp
      by_cases h5 : q < 3
      · have h5' : (q : Int) < 3 := by omega
        have hids3 : q < idsF.length := h5
        have m1 : IntKind.i64.wrap (10 * (i : Int)) = 10 * (i : Int) := wrap64_in (by omega) (by omega)
        have m2 : IntKind.i64.wrap (10 * (i : Int) + (q : Int)) = 10 * (i : Int) + (q : Int) := wrap64_in (by omega) (by omega)
        have w3 : IntKind.i64.wrap ((q : Int) + 1) = ((q + 1 : Nat) : Int) := by rw [wrap64_in (by omega) (by omega)]; omega
        simp [h5, h5', hids, hids3]
        refine wpC_regD [0, 1, 2, 3, 4, 5, 6, 7, 8, 9, 10] 11 [12] (by kernel_rfl) rfl ?_
        simp [h5, h5', hids, hids3, m1, m2]
        refine ⟨by kernel_rfl, ?_⟩
        refine jcallP_i (set_j (cl := List.replicate i ⟨#[65]⟩ ++ [⟨#[65]⟩]) 3 ((i : Int) + 1) (idsF[q]'h5) 1 (10 * (i : Int) + (q : Int))) ?_
        rintro _ s2 ⟨rfl, rest2, e1, e2, e3, e4⟩
        rw [S_ret e1 e2 e3 e4, hwo]
        have hset : setF (List.replicate i ⟨#[65]⟩ ++ [⟨#[65]⟩]) l' 3 ((i : Int) + 1) (idsF[q]'h5) (1, 10 * (i : Int) + (q : Int)) = putK l' ((i : Int) + 1, idsF[q]'h5) (1, 10 * (i : Int) + (q : Int)) := by simp [setF, hwo]
        rw [hset]
        simp
        exact ⟨by kernel_rfl, againK_i (q + 1, putK l' ((i : Int) + 1, idsF[q]'h5) (1, 10 * (i : Int) + (q : Int))) (g2 ++ rest2) ⟨h5, hnn, hf.step h5⟩ (by dsimp only; omega) (by simp [w3]) (by simp) (by simp)⟩
      · have : q = 3 := by omega
        subst this
        simp
        refine againK_i (i + 1, nx, nx + 1, l') (g ++ (rest ++ [.int .i64 3, .int .i64 ((i : Int) + 1)] :: g2)) ⟨h4, n0, by dsimp only; omega, by dsimp only; omega, n2, by dsimp only; omega, hnn, .inr ⟨by simp, n3, by dsimp only; omega⟩, hf.next⟩ (by dsimp only; omega) ?_ ?_ (by simp)
        · simp [w, objs_succ]
        · rw [← List.replicate_succ']
          simp
  · have : i = m + 2 := by omega
    subst this
    have hmne : ¬ ((m : Int) + 2 = 0) := by omega
    obtain ⟨P, hP, hPe⟩ : ∃ P : Nat, P < m + 2 ∧ (ma : Int).tmod ((m : Int) + 2) = (P : Int) := ⟨ma % (m + 2), Nat.mod_lt _ (by omega), by rw [Int.tmod_eq_emod_of_nonneg (by omega), Int.natCast_emod]; rfl⟩
    obtain ⟨R, hR, hRe⟩ : ∃ R : Nat, R < 3 ∧ (mb : Int).tmod 3 = (R : Int) := ⟨mb % 3, Nat.mod_lt _ (by omega), by rw [Int.tmod_eq_emod_of_nonneg (by omega)]; omega⟩
    have hRi : R < idsF.length := hR
    have hPi : P < (objs (m + 2)).length := by simpa using hP
    have hPl : P < (List.replicate (m + 2) (⟨#[65]⟩ : ByteArray)).length := by simpa using hP
    have hoP : (objs (m + 2))[P]'hPi = (3, (P : Int) + 1) := by simp [objs]
    have hwP := which_obj hPl
    have hw0 : which (List.replicate (m + 2) (⟨#[65]⟩ : ByteArray)) 1 0 = (0, 0) := by simp [which, isObj]
    simp [hmne, hmae, hmbe, hPe, hRe, hP, hR, hids]
    have hPz : (P : Int) < (m : Int) + 2 := by omega
    have hRz : (R : Int) < 3 := by omega
    refine ⟨hPz, hRz, ?_⟩
    refine wpC_regD2 [0, 1, 2, 3, 4, 5, 6, 7, 8, 9] 10 [11, 12, 13, 14, 15, 16, 17, 18, 19] 20 [21, 22] (by kernel_rfl) rfl rfl ?_
    simp [hP, hR, hRi, hids, hoP, hPz, hRz]
    refine ⟨by kernel_rfl, ?_⟩
    have hs1 : setF (List.replicate (m + 2) ⟨#[65]⟩) l 3 ((P : Int) + 1) (idsF[R]'hR) (2, 1) = putK l ((P : Int) + 1, idsF[R]'hR) (2, 1) := by simp [setF, hwP]
    refine jcallP_i (set_j (cl := List.replicate (m + 2) ⟨#[65]⟩) 3 ((P : Int) + 1) (idsF[R]'hR) 2 1) ?_
    rintro _ s2 ⟨rfl, rest, e1, e2, e3, e4⟩
    rw [S_ret e1 e2 e3 e4, hwP, hs1]
    simp [hP, hR, hRi, hids, hoP, hPz, hRz]
    refine ⟨by kernel_rfl, ?_⟩
    have hs2 : setF (List.replicate (m + 2) ⟨#[65]⟩) (putK l ((P : Int) + 1, idsF[R]'hR) (2, 1)) 1 0 (idsF[R]'hR) (1, 999) = putK (putK l ((P : Int) + 1, idsF[R]'hR) (2, 1)) (0, idsF[R]'hR) (1, 999) := by simp [setF, hw0]
    refine jcallP_i (set_j (cl := List.replicate (m + 2) ⟨#[65]⟩) 1 0 (idsF[R]'hR) 1 999) ?_
    rintro _ s2 ⟨rfl, rest2, e1, e2, e3, e4⟩
    rw [S_ret e1 e2 e3 e4, hw0, hs2]
    simp
    refine ⟨by kernel_rfl, ?_⟩
    have hlook : ∀ (j p : Nat) (hj : j < m + 2) (hp : p < 3), lookK (putK (putK l ((P : Int) + 1, idsF[R]'hR) (2, 1)) (0, idsF[R]'hR) (1, 999)) ((j : Int) + 1, idsF[p]'hp) = some (if j = P ∧ p = R then (2, 1) else (1, 10 * (j : Int) + p)) := by
      intro j p hj hp
      rw [lookK_put, if_neg (fun h => by have := congrArg Prod.fst h; simp at this; omega), lookK_put]
      by_cases e : j = P ∧ p = R
      · obtain ⟨rfl, rfl⟩ := e
        rw [if_pos rfl, if_pos ⟨rfl, rfl⟩]
      · rw [if_neg e, if_neg (fun h => e ?_), hfill j p hp (.inl hj)]
        rw [Prod.ext_iff] at h
        have h3 : (j : Int) + 1 = (P : Int) + 1 := h.1
        exact ⟨by omega, idsF_inj hp hR h.2⟩
    have hlook0 : lookK (putK (putK l ((P : Int) + 1, idsF[R]'hR) (2, 1)) (0, idsF[R]'hR) (1, 999)) (0, idsF[R]'hR) = some (1, 999) := by rw [lookK_put, if_pos rfl]
    clear hs1 hs2
    generalize putK (putK l ((P : Int) + 1, idsF[R]'hR) (2, 1)) (0, idsF[R]'hR) (1, 999) = l2 at hlook hlook0 ⊢
    refine loopK [8, 9, 10, 11, 16, 17] (fun j _ => j ≤ m + 2) (fun j => [(18, .int .i64 (j : Nat))]) (fun _ => hob l2 k (List.replicate (m + 2) ⟨#[65]⟩) []) (fun _ => [(k, .ty 9), (kk, .ty 31)]) (fun j => m + 2 - j) 0 (by simp) (by simp) _ rfl (by simp) ?_
    rintro j nx3 g3 hj hnx3 -
    simp
    by_cases h6 : j < m + 2
    · have h6' : (j : Int) < (m : Int) + 2 := by omega
      have wj : IntKind.i64.wrap ((j : Int) + 1) = ((j + 1 : Nat) : Int) := by rw [wrap64_in (by omega) (by omega)]; omega
      simp [h6']
      refine loopK [8, 9, 10, 11, 16, 17, 18] (fun p _ => p ≤ 3) (fun p => [(19, .int .i64 (p : Nat))]) (fun _ => hob l2 k (List.replicate (m + 2) ⟨#[65]⟩) []) (fun _ => [(k, .ty 9), (kk, .ty 31)]) (fun p => 3 - p) 0 (by simp) (by simp) _ rfl (by simp) ?_
      rintro p nx4 g4 hp hnx4 -
      simp
      by_cases h7 : p < 3
      · have h7' : (p : Int) < 3 := by omega
        have hids3 : p < idsF.length := h7
        have hji : j < (objs (m + 2)).length := by simpa using h6
        have hjl : j < (List.replicate (m + 2) (⟨#[65]⟩ : ByteArray)).length := by simpa using h6
        have hoj : (objs (m + 2))[j]'hji = (3, (j : Int) + 1) := by simp [objs]
        have hwj := which_obj hjl
        have m1 : IntKind.i64.wrap (10 * (j : Int)) = 10 * (j : Int) := wrap64_in (by omega) (by omega)
        have m2 : IntKind.i64.wrap (10 * (j : Int) + (p : Int)) = 10 * (j : Int) + (p : Int) := wrap64_in (by omega) (by omega)
        have w3 : IntKind.i64.wrap ((p : Int) + 1) = ((p + 1 : Nat) : Int) := by rw [wrap64_in (by omega) (by omega)]; omega
        have hlk := hlook j p h6 h7
        have hgv : getV (List.replicate (m + 2) ⟨#[65]⟩) l2 3 ((j : Int) + 1) (idsF[p]'h7) ⟨#[105, 110, 116]⟩ = .tup [valV (if j = P ∧ p = R then (2, 1) else (1, 10 * (j : Int) + p)), .int .i64 0] := by
          simp [getV, hwj, hlk]
        have hgd : idsF[p]?.getD ByteArray.empty = idsF[p]'h7 := by rw [List.getElem?_eq_getElem hids3]; rfl
        have bq : ∃ q1 q2 : Bool, ((j : Int) == (P : Int)) = q1 ∧ ((p : Int) == (R : Int)) = q2 ∧ (if j = P ∧ p = R then ((2 : Int), (1 : Int)) else (1, 10 * (j : Int) + p)) = (if q1 && q2 then (2, 1) else (1, 10 * (j : Int) + p)) := by
          refine ⟨_, _, rfl, rfl, ?_⟩
          by_cases e6 : j = P <;> by_cases e7 : p = R <;> simp [e6, e7]
          all_goals (first | rfl | (intro h; exact absurd (by omega) e6) | (intro h; exact absurd (by omega) e7) | skip)
        obtain ⟨q1, q2, hq1, hq2, hqv⟩ := bq
        rw [hqv] at hgv
        cases q1 <;> cases q2 <;> simp [h6, h6', hoj, h7', hids, hids3, m1, m2, hq1, hq2]
        all_goals
          refine wpC_regZ [0, 1, 2, 3, 4, 5, 6, 7, 8] 9 [10, 11, 12, 13, 14, 15] [10, 11, 12, 14, 15] 13 (by kernel_rfl) (by kernel_rfl) rfl rfl ?_
          simp [h6, h6', h7', hids, hids3, hoj, hgd]
          refine ⟨by kernel_rfl, ?_, ?_, ?_⟩
          · refine jcallP_i (get_j (cl := List.replicate (m + 2) ⟨#[65]⟩) 3 ((j : Int) + 1) (idsF[p]'h7) ⟨#[105, 110, 116]⟩) ?_
            rintro _ s2 ⟨rfl, rest3, e1, e2, e3, e4⟩
            rw [S_ret e1 e2 e3 e4, hgv]
            simp [valV]
            refine ⟨by kernel_rfl, ?_⟩
            exact againK_i (p + 1) _ h7 (by omega) (by simp [w3]) rfl (by simp)
          · rintro _ _ (⟨rfl, rfl⟩ | ⟨rfl, rfl⟩ | ⟨rfl, rfl⟩ | ⟨rfl, rfl⟩ | ⟨rfl, rfl⟩ | ⟨rfl, rfl⟩ | ⟨rfl, rfl⟩ | ⟨rfl, rfl⟩ | ⟨rfl, rfl⟩) <;> kernel_rfl
          · refine jcallP_i (get_j (cl := List.replicate (m + 2) ⟨#[65]⟩) 3 ((j : Int) + 1) (idsF[p]'h7) ⟨#[105, 110, 116]⟩) ?_
            rintro _ s2 ⟨rfl, rest3, e1, e2, e3, e4⟩
            rw [S_ret e1 e2 e3 e4, hgv]
            simp [valV]
            refine ⟨by kernel_rfl, ?_⟩
            exact againK_i (p + 1) _ h7 (by omega) (by simp [w3]) rfl (by simp)
      · have : p = 3 := by omega
        subst this
        simp
        exact againK_i (j + 1) g4 h6 (by omega) (by simp [wj]) rfl (by simp)
    · have : j = m + 2 := by omega
      subst this
      simp [hR, hRi, hRz, hids]
      have hgv : getV (List.replicate (m + 2) ⟨#[65]⟩) l2 1 0 (idsF[R]'hR) ⟨#[105, 110, 116]⟩ = .tup [valV (1, 999), .int .i64 0] := by
        simp [getV, hw0, hlook0]
      refine jcallP_i (get_j (cl := List.replicate (m + 2) ⟨#[65]⟩) 1 0 (idsF[R]'hR) ⟨#[105, 110, 116]⟩) ?_
      rintro _ s2 ⟨rfl, rest3, e1, e2, e3, e4⟩
      rw [S_ret e1 e2 e3 e4, hgv]
      simp [valV]
      refine jcallP_i many_j ?_
      rintro _ s2 ⟨rfl, rest4, e1, e2, e3, e4⟩
      rw [S_ret e1 e2 e3 e4]
      simp
end Go.Proofs.AL
namespace Go.Proofs.AL
open Go Go.RowKit Go.Proofs.YtnhhanmkjpmcnaaDoor
set_option linter.unusedVariables false
set_option linter.unusedSimpArgs false
/-! ## What a law's argument reads as -/
/-- All cells of a block. -/
def mAll (w : World) : Nat → Nat := fun b => match w.heap[b]? with
  | some (.cells c _ _) => c.size
  | _ => 0
theorem mAll_end (w : World) (b : Nat) (h : w.heap.size ≤ b) : mAll w b = 0 := by
  unfold mAll
  rw [Array.getElem?_eq_none h]
theorem mAll_cell {w : World} {b o : Nat} {v : Value} (h : w.cell? ⟨b, o, none⟩ = some v) : o < mAll w b := by
  unfold World.cell? at h
  unfold mAll
  cases hb : w.heap[b]? with
  | none => rw [hb] at h; cases h
  | some ob =>
    rw [hb] at h
    cases ob with
    | cells c T q => exact (Array.getElem?_eq_some_iff.1 h).1
    | _ => cases h
theorem spot_none {w : World} {a : Addr} {v : Value} (h : w.cell? a = some v) : a.spot = none := by
  unfold World.cell? at h
  split at h
  · split at h
    · cases h
    · rename_i hs
      cases hsp : a.spot with
      | none => rfl
      | some _ => rw [hsp] at hs; exact absurd rfl hs
  · cases h
/-- Whatever reads as data of type t is a value with these cells, of a size that the datum tells, and as the reach allows. -/
def ToldAt {α : Type} (P : Program) (t : TypeId) (cells : α → List AV) (sz : α → Nat) (ok : α → Prop) (fuel : Nat) : Prop :=
  ∀ {H : Type} {enc : TypeId × Value → H} {w : World} {held : Bool} {cs : List Value} {z : DataW H × List MemPlace},
    DataW.trod enc P w 0 (fun _ => true) held fuel t cs = some z → (∀ q ∈ DataW.weights P t z.1, q ≤ 140737488351232) → ∃ x, VL (gh1 (mAll w)) w (cells x) cs ∧ ok x ∧ sz x ≤ Rows.uptoBulk z.1
def Told {α : Type} (P : Program) (t : TypeId) (cells : α → List AV) (sz : α → Nat) (ok : α → Prop) : Prop := ∀ fuel, ToldAt P t cells sz ok fuel
theorem mapM_get {α β : Type} {f : α → Option β} : ∀ {l : List α} {xs : List β}, l.mapM f = some xs → xs.length = l.length ∧ ∀ (i : Nat) (a : α), l[i]? = some a → f a = xs[i]? := by
  intro l
  induction l with
  | nil => intro xs h; rw [List.mapM_nil] at h; cases h; exact ⟨rfl, fun i a hi => by simp at hi⟩
  | cons b l ih =>
    intro xs h
    rw [List.mapM_cons] at h
    cases hy : f b with
    | none => rw [hy] at h; cases h
    | some y =>
      rw [hy] at h
      cases hys : l.mapM f with
      | none => rw [hys] at h; cases h
      | some ys =>
        rw [hys] at h
        cases h
        obtain ⟨hl, hg⟩ := ih hys
        refine ⟨by rw [List.length_cons, List.length_cons, hl], fun i a hi => ?_⟩
        cases i with
        | zero => rw [List.getElem?_cons_zero] at hi ⊢; injection hi with hi; subst hi; exact hy
        | succ i => rw [List.getElem?_cons_succ] at hi ⊢; exact hg i a hi
theorem cells_at {w : World} {base : Nat} {a : Addr} {n : Nat} {cs : List Value} (h : w.cells? base a n = some cs) : cs.length = n ∧ ∀ i u, cs[i]? = some u → w.cell? (a.add i) = some u := by
  unfold World.cells? at h
  split at h
  · obtain ⟨hl, hg⟩ := mapM_get h
    rw [List.length_range] at hl
    refine ⟨hl, fun i u hi => ?_⟩
    have hlt : i < n := by
      rcases Nat.lt_or_ge i n with h1 | h1
      · exact h1
      · rw [List.getElem?_eq_none (by omega)] at hi; cases hi
    rw [hg i i (by rw [List.getElem?_range hlt])]; exact hi
  · cases h
theorem bulk_one {H : Type} (d : DataW H) : 1 ≤ Rows.uptoBulk d := by
  cases d with
  | lit l => cases l <;> simp [Rows.uptoBulk]
  | nil => simp [Rows.uptoBulk]
  | ptr d => simp [Rows.uptoBulk]
  | slice elems spare => simp [Rows.uptoBulk]
  | agg parts => simp [Rows.uptoBulk]
  | iface u d => simp [Rows.uptoBulk]
  | map entries => simp [Rows.uptoBulk]
  | held t => simp [Rows.uptoBulk]
theorem told_int {P : Program} {t : TypeId} {k : IntKind} (hu : P.underlying t = some (.int k)) : Told P t (fun x : Int => [.int k x]) (fun _ => 1) (fun x => (Lit.int k x).wf = true) := by
  intro fuel H enc w held cs z h _
  obtain ⟨n, rfl, rfl, hw⟩ := DataW.trod_int hu h
  exact ⟨n, .cons (.int k n) rfl .nil, hw, bulk_one _⟩
theorem told_bool {P : Program} {t : TypeId} (hu : P.underlying t = some .bool) : Told P t (fun x : Bool => [.bool x]) (fun _ => 1) (fun _ => True) := by
  intro fuel H enc w held cs z h _
  obtain ⟨n, rfl, rfl⟩ := DataW.trod_bool hu h
  exact ⟨n, .cons (.bool n) rfl .nil, trivial, bulk_one _⟩
theorem told_string {P : Program} {t : TypeId} (hu : P.underlying t = some .string) : Told P t (fun s : ByteArray => [.str s]) (fun s => s.size + 1) (fun s => s.size ≤ 140737488351232) := by
  intro fuel H enc w held cs z h hq
  obtain ⟨s, rfl, rfl, hs⟩ := DataW.trod_string hu h
  refine ⟨s, .cons (.str s) rfl .nil, ?_, ?_⟩
  · have := hq s.data.toList.length (by simp [DataW.weights])
    simpa using this
  · simp [Rows.uptoBulk]
def sumOf {α : Type} (sz : α → Nat) : List α → Nat
  | [] => 0
  | x :: l => sz x + sumOf sz l
theorem sumOf_le {α : Type} (sz : α → Nat) {l : List α} {x : α} (h : x ∈ l) : sz x ≤ sumOf sz l := by
  induction l with
  | nil => cases h
  | cons y l ih =>
    rw [sumOf]
    cases h with
    | head => exact Nat.le_add_right _ _
    | tail _ h => exact Nat.le_trans (ih h) (Nat.le_add_left _ _)
theorem rows_told {α : Type} {P : Program} {e : TypeId} {cells : α → List AV} {sz : α → Nat} {ok : α → Prop} {n : Nat} (ht : ToldAt P e cells sz ok n) {H : Type} {enc : TypeId × Value → H} {w : World} {held : Bool} (get : Nat → Option (List Value)) :
    ∀ (elems : List (DataW H × List MemPlace)) (k : Nat), (∀ i, i < elems.length → (get (k + i)).bind (DataW.trod enc P w 0 (fun _ => true) held n e) = elems[i]?) → (∀ q ∈ DataW.weightsAll P e (elems.map (·.1)), q ≤ 140737488351232) →
    ∃ l : List α, l.length = elems.length ∧ (∀ i x, l[i]? = some x → ∃ cs, get (k + i) = some cs ∧ VL (gh1 (mAll w)) w (cells x) cs) ∧ (∀ x ∈ l, ok x) ∧ sumOf sz l ≤ Rows.uptoBulkAll (elems.map (·.1)) := by
  intro elems
  induction elems with
  | nil => intro k _ _; exact ⟨[], rfl, (fun i x hi => (by simp at hi)), (fun x hx => (by cases hx)), Nat.zero_le _⟩
  | cons y elems ih =>
    intro k h hq
    rw [List.map_cons, DataW.weightsAll] at hq
    have h0 := h 0 (by simp)
    rw [List.getElem?_cons_zero, Nat.add_zero] at h0
    cases hc : get k with
    | none => rw [hc] at h0; cases h0
    | some cs =>
      rw [hc] at h0
      obtain ⟨x, hx, hox, hsx⟩ := ht h0 (fun q hm => hq q (List.mem_append_left _ hm))
      obtain ⟨l, hl, hg, ho, hs⟩ := ih (k + 1) (fun i hi => by
        have := h (i + 1) (by rw [List.length_cons]; omega)
        rw [List.getElem?_cons_succ] at this
        rw [← this, show k + 1 + i = k + (i + 1) by omega]) (fun q hm => hq q (List.mem_append_right _ hm))
      refine ⟨x :: l, by rw [List.length_cons, List.length_cons, hl], fun i u hi => ?_, fun u hu => ?_, ?_⟩
      · cases i with
        | zero => rw [List.getElem?_cons_zero] at hi; injection hi with hi; subst hi; exact ⟨cs, hc, hx⟩
        | succ i => rw [List.getElem?_cons_succ] at hi; obtain ⟨c, h1, h2⟩ := hg i u hi; exact ⟨c, by rw [show k + (i + 1) = k + 1 + i by omega]; exact h1, h2⟩
      · cases hu with
        | head => exact hox
        | tail _ hu => exact ho u hu
      · rw [sumOf, List.map_cons, Rows.uptoBulkAll]; omega
/-- A slice: c: how many cells an element has; B: how many bytes. -/
theorem told_slice_at {α : Type} {P : Program} {t e : TypeId} {cells : α → List AV} {sz : α → Nat} {ok : α → Prop} (c B : Nat) (hc0 : 0 < c) (hu : P.underlying t = some (.slice e)) (hc : P.cellsOf e = c) (hb : P.bytesOf e = B) (hcl : ∀ x, (cells x).length = c) (fuel : Nat) (he : ∀ n, n < fuel → ToldAt P e cells sz ok n) :
    ToldAt P t (fun l : List α => [.sl 0 (l.map cells)]) (fun l => sumOf sz l + 1) (fun l => l.length * B ≤ 140737488351232 ∧ ∀ x ∈ l, ok x) fuel := by
  intro H enc w held cs z h hq
  rcases DataW.trod_slice hu h with ⟨rfl, rfl⟩ | ⟨a, len, cap, elems, rest, n, rfl, rfl, rfl, _, hlc, hcm, hlen, hel, _, _⟩
  · exact ⟨[], .cons (.sl0 (.inl rfl)) rfl .nil, ⟨by simp, (fun x hx => (by cases hx))⟩, bulk_one _⟩
  · simp only [DataW.weights, hu] at hq
    obtain ⟨l, hl, hg, ho, hs⟩ := rows_told (he n (Nat.lt_succ_self n)) (H := H) (enc := enc) (w := w) (held := held) (fun i => w.cells? 0 (a.add (i * P.cellsOf e)) (P.cellsOf e)) elems 0
      (fun i hi => by rw [Nat.zero_add]; exact hel i (by omega)) (fun q hm => hq q (List.mem_cons_of_mem _ (List.mem_append_left _ hm)))
    have hll : l.length = len := by omega
    refine ⟨l, .cons ?_ rfl .nil, ⟨?_, ho⟩, ?_⟩
    · rcases Nat.eq_zero_or_pos l.length with h0 | h0
      · have hnil : l = [] := List.eq_nil_of_length_eq_zero h0
        subst hnil
        have : len = 0 := by omega
        subst this
        exact .sl0 (.inl rfl)
      · have key : ∀ (j i : Nat) (el : List AV) (x : AV), (l.map cells)[j]? = some el → el[i]? = some x → ∃ u, w.cell? ⟨a.block, a.off + (j * c + i), none⟩ = some u ∧ u.oneCell' = true ∧ V (gh1 (mAll w)) w x u ∧ a.spot = none := by
          intro j i el x hj hi
          rw [List.getElem?_map] at hj
          obtain ⟨p, hp, rfl⟩ := Option.map_eq_some_iff.1 hj
          obtain ⟨cs, h1, h2⟩ := hg j p hp
          rw [Nat.zero_add] at h1
          obtain ⟨g1, g2⟩ := cells_at h1
          have hil : i < cs.length := by have := (List.getElem?_eq_some_iff.1 hi).1; rw [h2.1] at this; exact this
          obtain ⟨v1, v2⟩ := h2.2 i x cs[i] hi (List.getElem?_eq_getElem hil)
          have hcell := g2 i cs[i] (List.getElem?_eq_getElem hil)
          rw [hc, Addr.add_add] at hcell
          have hsp := spot_none hcell
          by_cases h00 : j * c + i = 0
          · have e0 : a.add (j * c + i) = a := by unfold Addr.add; rw [if_pos h00]
            rw [e0] at hcell hsp
            have ea : (⟨a.block, a.off + (j * c + i), none⟩ : Addr) = a := by rw [h00, Nat.add_zero, ← hsp]
            exact ⟨_, by rw [ea]; exact hcell, v2, v1, hsp⟩
          · have e0 : a.add (j * c + i) = ⟨a.block, a.off + (j * c + i), none⟩ := by unfold Addr.add; rw [if_neg h00]
            rw [e0] at hcell
            have h0' : 0 < l.length := h0
            -- the row's own place: of its first cell
            have hp0 : l[0]? = some l[0] := List.getElem?_eq_getElem h0'
            obtain ⟨cs0, k1, k2⟩ := hg 0 _ hp0
            obtain ⟨q1, q2⟩ := cells_at k1
            have hl0 : 0 < cs0.length := by rw [q1, hc]; exact hc0
            have hz := q2 0 _ (List.getElem?_eq_getElem hl0)
            have ez : (a.add ((0 + 0) * P.cellsOf e)).add 0 = a := by unfold Addr.add; simp
            rw [ez] at hz
            exact ⟨_, hcell, v2, v1, spot_none hz⟩
        have hsp : a.spot = none := by
          have hel0 : (l.map cells)[0]? = some (cells l[0]) := by rw [List.getElem?_map, List.getElem?_eq_getElem h0]; rfl
          have hc1 : 0 < (cells l[0]).length := by rw [hcl]; exact hc0
          obtain ⟨_, _, _, _, h4⟩ := key 0 0 _ _ hel0 (List.getElem?_eq_getElem hc1)
          exact h4
        have ea : a = ⟨a.block, a.off, none⟩ := by cases a; simp at hsp; subst hsp; rfl
        rw [ea]
        refine .sl (sz := c) (fun j i => (w.cell? ⟨a.block, a.off + (j * c + i), none⟩).getD undef) (by omega) (by simp; omega) hlc hcm hc0 (fun el hel => ?_) (.inl rfl) (fun j i el x hj hi => ?_) (fun j i el x hj hi => ?_)
        · obtain ⟨p, _, rfl⟩ := List.mem_map.1 hel
          exact hcl p
        · obtain ⟨u, h1, h2, h3, _⟩ := key j i el x hj hi
          exact ⟨mAll_cell h1, by rw [h1]; rfl, by rw [h1]; exact h2⟩
        · obtain ⟨u, h1, h2, h3, _⟩ := key j i el x hj hi
          rw [h1]; exact h3
    · have := hq ((elems.length + rest.length) * P.bytesOf e) (by simp)
      rw [hb] at this
      rw [hl]
      exact Nat.le_trans (Nat.mul_le_mul_right _ (Nat.le_add_right _ _)) this
    · simp only [Rows.uptoBulk]; omega
theorem told_slice {α : Type} {P : Program} {t e : TypeId} {cells : α → List AV} {sz : α → Nat} {ok : α → Prop} (c B : Nat) (hc0 : 0 < c) (hu : P.underlying t = some (.slice e)) (hc : P.cellsOf e = c) (hb : P.bytesOf e = B) (hcl : ∀ x, (cells x).length = c) (he : Told P e cells sz ok) :
    Told P t (fun l : List α => [.sl 0 (l.map cells)]) (fun l => sumOf sz l + 1) (fun l => l.length * B ≤ 140737488351232 ∧ ∀ x ∈ l, ok x) := fun fuel => told_slice_at c B hc0 hu hc hb hcl fuel (fun n _ => he n)
theorem ToldAt.map {α β : Type} {P : Program} {t : TypeId} {cells : α → List AV} {sz : α → Nat} {ok : α → Prop} {fuel : Nat} (h : ToldAt P t cells sz ok fuel) {cells' : β → List AV} {sz' : β → Nat} {ok' : β → Prop} (f : α → β) (h1 : ∀ x, cells' (f x) = cells x) (h2 : ∀ x, sz' (f x) ≤ sz x) (h3 : ∀ x, ok x → ok' (f x)) : ToldAt P t cells' sz' ok' fuel := by
  intro H enc w held cs z h' hq
  obtain ⟨x, a, b, c⟩ := h h' hq
  exact ⟨f x, by rw [h1]; exact a, h3 x b, Nat.le_trans (h2 x) c⟩
/-- A field's part of a struct's cells. -/
theorem told_field {α : Type} {P : Program} {t : TypeId} {cells : α → List AV} {sz : α → Nat} {ok : α → Prop} {n : Nat} (ht : ToldAt P t cells sz ok n) {H : Type} {enc : TypeId × Value → H} {w : World} {held : Bool} {cs : List Value} {off k : Nat} {y : DataW H × List MemPlace} (hk : P.cellsOf t = k)
    (h : DataW.trod enc P w 0 (fun _ => true) held n t ((cs.drop off).take (P.cellsOf t)) = some y) (hq : ∀ q ∈ DataW.weights P t y.1, q ≤ 140737488351232) : ∃ x, VL (gh1 (mAll w)) w (cells x) ((cs.drop off).take k) ∧ ok x ∧ sz x ≤ Rows.uptoBulk y.1 := by
  rw [hk] at h
  exact ht h hq
/-- An argument, by its reading and its weights. -/
theorem told_arg {α : Type} {P : Program} {t : TypeId} {cells : α → List AV} {sz : α → Nat} {ok : α → Prop} (ht : Told P t cells sz ok) {H : Type} {enc : TypeId × Value → H} {w : World} {held : Bool} {ts : List TypeId} {ds : List (DataW H)} {j : Nat} {v : Value} {z : DataW H} {ps : List MemPlace}
    (h : DataW.Trod enc P w 0 (fun _ => true) held t v z ps) (hsz : (DataW.weightsEach P ts ds).all (· ≤ reachBytes) = true) (hj : ts[j]? = some t) (hd : ds[j]? = some z) : ∃ x, VL (gh1 (mAll w)) w (cells x) v.cells.toList ∧ ok x ∧ sz x ≤ Rows.uptoBulk z := by
  obtain ⟨fuel, hf⟩ := h
  obtain ⟨x, h1, h2, h3⟩ := ht fuel hf (fun q hq => by
    have := List.all_eq_true.1 hsz q (DataW.weights_mem_each hj hd q hq)
    exact of_decide_eq_true this)
  exact ⟨x, h1, h2, h3⟩
theorem vl_one {G : Gh} {w : World} {x : AV} {v : Value} (h : VL G w [x] v.cells.toList) (hn : ∀ cs, v ≠ .agg cs) : V G w x v := by
  cases v with
  | agg cs => exact absurd rfl (hn cs)
  | _ => exact (h.2 0 _ _ rfl rfl).1
theorem vl_struct {G : Gh} {w : World} {xs : List AV} {v : Value} (h : VL G w xs v.cells.toList) (hn : xs.length ≠ 1) : V G w (.agg xs) v := by
  cases v with
  | agg cs => exact VL.agg h
  | _ => exact absurd h.1 hn
theorem vl_agg {G : Gh} {w : World} {xs : List AV} {cs : Array Value} (h : VL G w xs (Value.agg cs).cells.toList) : V G w (.agg xs) (.agg cs) := VL.agg h
/-- The law's call: true, and what there was is as it was. -/
theorem law_calls {C : Cx} {f : FuncId} {args : List AV} (h : ACall C f args (.bool true) none) {W : World} {vs : Array Value} (hgi : C.GI W) (hl : vs.size = args.length) (hV : ∀ (i : Nat) (x : AV) (v : Value), args[i]? = some x → vs[i]? = some v → V (gh1 (mAll W)) W x v) :
    Calls C.P f vs W fun e w' => e = .returned (.bool true) ∧ Below W.heap.size W w' :=
  (h.2 (mAll W) W vs hgi (fun b hb => mAll_end W b hb) hl hV).mono (fun e w' ⟨v, m', he, hb, _, _, hv, _⟩ => ⟨by rw [he]; cases hv; rfl, hb⟩)
end Go.Proofs.AL
namespace Go.Proofs.AL
open Go Go.RowKit Go.Proofs.Tryd Go.Proofs.YtnhhanmkjpmcnaaDoor
set_option maxRecDepth 100000
set_option linter.unusedVariables false
def iok (n : Int) : Prop := (Lit.int .i64 n).wf = true
theorem told_val : Told prog 31 (fun v : Int × Int => [.int .i64 v.1, .int .i64 v.2]) (fun v => 1) (fun v => iok v.1 ∧ iok v.2) := by
  intro fuel H enc w held cs z h hq
  obtain ⟨xs, n, rfl, rfl, hl, hlen, hf⟩ := DataW.trod_struct Tryd.underlying31 h
  have et : prog.cellsOf 31 = 2 := by kernel_rfl
  rw [et] at hl
  simp only [DataW.weights, Tryd.underlying31] at hq
  match cs, hl with
  | [v0, v1], _ =>
    match xs, hlen with
    | [y0, y1], _ =>
      simp only [List.map_cons, List.map_nil, DataW.weightsEach, List.append_nil] at hq
      obtain ⟨x0, g0, o0, s0⟩ := told_field ((@told_int prog 3 .i64 Tryd.underlying3) n) (k := 1) (off := 0) (by kernel_rfl) (hf 0 _ rfl) (fun q hm => hq q (by simp [hm]))
      obtain ⟨x1, g1, o1, s1⟩ := told_field ((@told_int prog 2 .i64 Tryd.underlying2) n) (k := 1) (off := 1) (by kernel_rfl) (hf 1 _ rfl) (fun q hm => hq q (by simp [hm]))
      refine ⟨(x0, x1), ?_, ⟨o0, o1⟩, ?_⟩
      · have := (g0.append g1)
        simpa using this
      · simp only [Rows.uptoBulk, List.map_cons, List.map_nil, Rows.uptoBulkAll]
        first | omega | (simp; omega)
end Go.Proofs.AL
namespace Go.Proofs.AL
open Go Go.RowKit Go.ChangeShapes Go.WideShapes Go.ChangeAt Go.Proofs.YtnhhanmkjpmcnaaDoor
/-! ### what the package's variables hold, out of the row's condition -/
theorem iface_reads {H : Type} {enc : TypeId × Value → H} {P : Program} {w : World} {base : Nat} {sp : Nat → Bool} {fuel : Nat} {t : TypeId} {ms : Array (String × TypeId)} {cs : List Value} {nm : String} {d : DataW H} {p : List MemPlace}
    (ht : P.underlying t = some (.interface ms)) (h : DataW.trod enc P w base sp false fuel t cs = some (.iface nm d, p)) : ∃ u v, cs = [.iface u v] := by
  cases fuel with
  | zero => simp [DataW.trod] at h
  | succ n =>
    unfold DataW.trod at h
    rw [ht] at h
    split at h <;> simp_all
theorem vars_of_laid {W : World} (h : laidMetH Tryd.prog Rows.heapShowsRow.laid W) : VarsOk W := by
  rw [MakeChecks.laidMetH_plain _ _ _ (by kernel_rfl)] at h
  obtain ⟨ps, ⟨g0, t0, cs0, f0, p0, q0, hg0, ht0, hv0, hd0, ⟨g1, t1, cs1, f1, p1, q1, hg1, ht1, hv1, hd1, ⟨g2, t2, cs2, f2, p2, q2, hg2, ht2, hv2, hd2, _, _⟩, _⟩, _⟩, _, _⟩ := h
  obtain rfl := Option.some.inj ((show Tryd.prog.globalNamed "internal/strconv.uint64pow10" = some 0 by kernel_rfl).symm.trans hg2)
  obtain rfl := Option.some.inj ((show (Tryd.prog.globals[0]?).map (·.type) = some 88 by kernel_rfl).symm.trans ht2)
  have e : Rows.laid_internal_strconv_uint64pow10 (H := Unit) = Lib.tabData .u64 Lib.pow10Tab := by kernel_rfl
  rw [e] at hd2
  have := Lib.cells_of_tab Tryd.underlying88 Tryd.underlying81 (by kernel_rfl) (by kernel_rfl) hd2
  show W.var? Tryd.prog _ = _
  rw [hv2, ← this]
theorem fit_of {n : Int} (h : (Lit.int .i64 n).wf = true) : Fit64 n := by
  have h1 : IntKind.i64.min = -9223372036854775808 := by decide
  have h2 : IntKind.i64.max = 9223372036854775807 := by decide
  simp only [Lit.wf, Bool.and_eq_true, decide_eq_true_eq, h1, h2] at h
  exact h
set_option maxRecDepth 100000 in
theorem door_met (os : Os) (args : Array Value) : laidMetH Tryd.prog Rows.heapShowsRow.laid ((World.doorLaid Tryd.prog 24 os).forCall (fun _ _ => 0) ⟨#[], args, []⟩).memory :=
  laidMetH_of_parts3 (fuel := 8) (laidMet_of_run' 8 (by kernel_rfl) (by kernel_rfl)) (by kernel_rfl) (by kernel_rfl)
end Go.Proofs.AL
