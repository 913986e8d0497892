/- What the functions that the law HeapPlays reaches compute, and the law (part 3). -/
import Derived.Test.YtnhhanmkjpmcnaaDoorAlHeapPlays2
namespace Go.Proofs.AL
open Go Go.RowKit Go.Proofs.Tryd
set_option maxRecDepth 100000
set_option linter.unusedSimpArgs false
theorem and_lt' (n c : Int) (k : Nat) (hk : k < 1024) (hc : c = k) : ∃ m : Nat, m ≤ k ∧ IntKind.i64.wrap (((n % 2 ^ IntKind.i64.bits).toNat &&& (c % 2 ^ IntKind.i64.bits).toNat : Nat) : Int) = (m : Int) := by
  have hb : IntKind.i64.bits = 64 := rfl
  have h1 : (c % 2 ^ IntKind.i64.bits).toNat = k := by
    rw [hb, hc]
    have : (k : Int) % 2 ^ 64 = k := by omega
    rw [this]; simp
  have h2 := Nat.and_le_right (n := (n % 2 ^ IntKind.i64.bits).toNat) (m := k)
  refine ⟨(n % 2 ^ IntKind.i64.bits).toNat &&& k, h2, ?_⟩
  rw [h1, wrap64_in (by omega) (by omega)]
theorem lookK_put' (l : List Fld) (k k' : Int × ByteArray) (x : Int × Int) : lookK (putK l k x) k' = if k' = k then some x else lookK l k' := by
  induction l with
  | nil => simp [putK, lookK]
  | cons q l ih =>
    unfold putK
    by_cases e : k = q.1
    · rw [if_pos e]
      simp only [lookK]
      rw [e]
      split <;> rfl
    · rw [if_neg e]
      simp only [lookK]
      rw [ih]
      by_cases e2 : k' = q.1
      · rw [if_pos e2, if_neg (fun h => e (h.symm.trans e2)), if_pos e2]
      · rw [if_neg e2, if_neg e2]
abbrev Act := Int × (Int × Int) × ByteArray × (Int × Int)
def actV (q : Act) : List AV := [.int .i64 q.1, .int .i64 q.2.1.1, .int .i64 q.2.1.2, .str q.2.2.1, .int .i64 q.2.2.2.1, .int .i64 q.2.2.2.2]
def acts (l : List Act) : List (List AV) := l.map actV
@[simp] theorem acts_length (l : List Act) : (acts l).length = l.length := by simp [acts]
@[simp] theorem acts_all (l : List Act) : (∀ el ∈ acts l, el.length = 6) = True := by
  simp only [acts, List.mem_map, eq_iff_iff, iff_true]
  rintro _ ⟨v, _, rfl⟩
  rfl
@[simp] theorem acts_eq_nil (l : List Act) : (acts l = []) = (l = []) := by simp [acts]
theorem acts_get {l : List Act} {i : Nat} (h : i < (acts l).length) : (acts l)[i] = actV (l[i]'(by simpa using h)) := by simp [acts]
attribute [simp] acts_get
structure Pl where
  i : Nat
  k : Nat
  kc : Nat
  ks : Nat
  cl : List ByteArray
  l : List Fld
  r : List Fld
def PlOk (al : List Act) (p : Pl) (nx : Nat) : Prop := p.i ≤ al.length ∧ p.cl.length ≤ p.i ∧ p.r.length ≤ p.i ∧ p.k ≠ 0 ∧ p.k ≠ 2 ∧ p.k < nx ∧ p.kc ≠ 0 ∧ p.kc ≠ 2 ∧ p.kc < nx ∧ (p.k = 1 ∧ p.kc = 1 ∨ p.k ≠ p.kc ∧ p.k ≠ 1 ∧ p.kc ≠ 1) ∧ ∀ q, lookK p.l q = lookR p.r q
set_option maxHeartbeats 8000000 in
theorem plays_ok (hw : Awake) (al : List Act) : ACall cx 3 [.sl 0 (acts al)] (.bool true) none := by
  refine ACall.wpc (C := cx) T.func_3 (by kernel_rfl) rfl (by rfl) ?_
  simp [f3]
  refine callP_i hw ?_
  simp
  by_cases h100 : al.length ≤ 100
  · have h100' : ¬ (100 : Int) < al.length := by omega
    simp [h100']
    refine callP_j (jcallP_in T.func_8 (by kernel_rfl) rfl (by rfl) (fun _ => ?_))
    simp [f8]
    refine loopK [0, 4, 5] (PlOk al) (fun p => [(6, .int .i64 (p.i : Nat))]) (fun p => hob p.l p.k p.cl [[.sl p.kc (strs p.cl), .sl p.ks (slots p.r)]]) (fun p => [(p.k, .ty 9), (p.kc, .ty 9)]) (fun p => al.length - p.i) ⟨0, 1, 1, 1, [], [], []⟩ ⟨by simp, by simp, by simp, by simp, by simp, by simp, by simp, by simp, by simp, .inl ⟨rfl, rfl⟩, fun q => rfl⟩ (by simp) [] (by simp [keysOf, valsOf]) (by simp) ?_
    rintro ⟨i, k, kc, ks, cl, l, r⟩ nx g ⟨hi, hcl, hrl, hk, hk2, hkn, hkk, hkk2, hkkn, hcase, hlook⟩ hnx -
    dsimp only at hi hcl hrl hk hk2 hkn hkk hkk2 hkkn hcase hlook
    simp
    by_cases h4 : i < al.length
    · obtain ⟨⟨kd, v, id, x⟩, hact⟩ : ∃ q, q = al[i] := ⟨_, rfl⟩
      obtain ⟨m, hm, hme⟩ := and_lt' kd 3 3 (by decide) rfl
      have w : IntKind.i64.wrap ((i : Int) + 1) = ((i + 1 : Nat) : Int) := by rw [wrap64_in (by omega) (by omega)]; omega
      simp [h4, actV, ← hact, hme]
      have n0 : ¬ nx = 0 := by omega
      have n1 : ¬ nx = 1 := by omega
      have nk : ¬ nx = k := by omega
      have nkk : ¬ nx = kc := by omega
      have nn0 : ¬ nx + 1 = 0 := by omega
      have nnk : ¬ nx + 1 = kc := by omega
      have nnn : ¬ nx + 1 = nx := by omega
      have hcl' : cl.length ≤ 1000 := by omega
      by_cases m0 : m = 0
      · subst m0
        rcases hcase with ⟨rfl, rfl⟩ | ⟨hc1, hc2, hc3⟩
        · simp
          refine jcallP_i (make_j (cl := cl) (k := 1) id hk hk2 hkn hnx (by omega) (by simp) (by simp)) ?_
          intro rr s2 hh
          rw [if_pos (by omega)] at hh
          obtain ⟨rfl, rest, e1, e2, e3, e4⟩ := hh
          rw [S_ret e1 e2 e3 e4]
          simp [n0, n1, nn0]
          refine callP_j (jcallP_tok1 9 (jcallP_i (rmake_j (cl := cl) (l := r) (kc := 1) (ks := ks) id (by decide) (by decide) (by omega) (by omega) hcl' rfl (by simp [n0])) ?_))
          rintro _ s2 ⟨rfl, rest2, e1, e2, e3, e4⟩
          rw [S_ret e1 e2 e3 e4]
          simp [n0, n1, nn0]
          refine callP_i (plain_ok _ _) ?_
          simp
          refine ⟨by kernel_rfl, ?_⟩
          refine jcallP_i (class_j (cl := cl ++ [id]) v.1 v.2 (by first | omega | (simp; omega))) ?_
          rintro _ s2 ⟨rfl, rest3, e1, e2, e3, e4⟩
          rw [S_ret e1 e2 e3 e4]
          obtain ⟨cs, cb, hcv⟩ : ∃ cs cb, classV (cl ++ [id]) v.1 v.2 = .tup [.str cs, .bool cb] := by
            unfold classV; split <;> exact ⟨_, _, rfl⟩
          rw [hcv]
          simp
          refine callP_i (plain_ok _ _) ?_
          simp
          refine callP_i (rclass_ok (cl ++ [id]) (r) v.1 v.2 (by first | omega | (simp; omega))) ?_
          rw [hcv]
          simp
          refine ⟨by kernel_rfl, ?_⟩
          refine wpC_regF [0, 1, 2, 3, 4, 5, 6, 7, 8, 9] 10 [14, 15] [(11, _, [11, 12, 13, 14, 15]), (12, _, [12, 13, 14, 15]), (13, _, [13, 14, 15])] (by kernel_rfl) (by kernel_rfl) rfl ⟨rfl, rfl, rfl, trivial⟩ ?_
          simp
          refine ⟨by kernel_rfl, ?_, by kernel_rfl, ?_, by kernel_rfl, ?_, by kernel_rfl, ?_⟩
          all_goals
            refine jcallP_i (many_j (cl := cl ++ [id])) ?_
            rintro _ s2 ⟨rfl, rest4, e1, e2, e3, e4⟩
            rw [S_ret e1 e2 e3 e4]
            simp
            refine ⟨by kernel_rfl, ?_⟩
            exact againK_i ⟨i + 1, nx, nx + 1, ks, cl ++ [id], l, r⟩ _ ⟨h4, by simp; omega, by dsimp only; omega, n0, by dsimp only; omega, by dsimp only; omega, nn0, by dsimp only; omega, by dsimp only; omega, .inr ⟨by dsimp only; omega, n1, by dsimp only; omega⟩, hlook⟩ (by dsimp only; omega) (by simp [w]) rfl (by simp)
        · have hc1' : ¬ kc = k := fun e => hc1 e.symm
          simp
          refine jcallP_i (make_j (cl := cl) (k := k) id hk hk2 hkn hnx (by omega) (by simp) (by simp [hk, hkk])) ?_
          intro rr s2 hh
          rw [if_pos (by omega)] at hh
          obtain ⟨rfl, rest, e1, e2, e3, e4⟩ := hh
          rw [S_ret e1 e2 e3 e4]
          simp [n0, n1, nn0, hk, hk2, hkk, hkk2, nk, nkk, nnk, hc1, hc1']
          refine callP_j (jcallP_i (rmake_j (cl := cl) (l := r) (kc := kc) (ks := ks) id hkk hkk2 (by omega) (by omega) hcl' (by simp [nkk]) (by simp [n0, hkk])) ?_)
          rintro _ s2 ⟨rfl, rest2, e1, e2, e3, e4⟩
          rw [S_ret e1 e2 e3 e4]
          simp [n0, n1, nn0, hk, hk2, hkk, hkk2, nk, nkk, nnk, hc1, hc1']
          refine callP_i (plain_ok _ _) ?_
          simp
          refine ⟨by kernel_rfl, ?_⟩
          refine jcallP_i (class_j (cl := cl ++ [id]) v.1 v.2 (by first | omega | (simp; omega))) ?_
          rintro _ s2 ⟨rfl, rest3, e1, e2, e3, e4⟩
          rw [S_ret e1 e2 e3 e4]
          obtain ⟨cs, cb, hcv⟩ : ∃ cs cb, classV (cl ++ [id]) v.1 v.2 = .tup [.str cs, .bool cb] := by
            unfold classV; split <;> exact ⟨_, _, rfl⟩
          rw [hcv]
          simp
          refine callP_i (plain_ok _ _) ?_
          simp
          refine callP_i (rclass_ok (cl ++ [id]) (r) v.1 v.2 (by first | omega | (simp; omega))) ?_
          rw [hcv]
          simp
          refine ⟨by kernel_rfl, ?_⟩
          refine wpC_regF [0, 1, 2, 3, 4, 5, 6, 7, 8, 9] 10 [14, 15] [(11, _, [11, 12, 13, 14, 15]), (12, _, [12, 13, 14, 15]), (13, _, [13, 14, 15])] (by kernel_rfl) (by kernel_rfl) rfl ⟨rfl, rfl, rfl, trivial⟩ ?_
          simp
          refine ⟨by kernel_rfl, ?_, by kernel_rfl, ?_, by kernel_rfl, ?_, by kernel_rfl, ?_⟩
          all_goals
            refine jcallP_i (many_j (cl := cl ++ [id])) ?_
            rintro _ s2 ⟨rfl, rest4, e1, e2, e3, e4⟩
            rw [S_ret e1 e2 e3 e4]
            simp
            refine ⟨by kernel_rfl, ?_⟩
            exact againK_i ⟨i + 1, nx, nx + 1, ks, cl ++ [id], l, r⟩ _ ⟨h4, by simp; omega, by dsimp only; omega, n0, by dsimp only; omega, by dsimp only; omega, nn0, by dsimp only; omega, by dsimp only; omega, .inr ⟨by dsimp only; omega, n1, by dsimp only; omega⟩, hlook⟩ (by dsimp only; omega) (by simp [w]) rfl (by simp)
      · by_cases m1 : m = 1
        · subst m1
          simp
          refine jcallP_i (get_j (cl := cl) (k := k) v.1 v.2 id ⟨#[105, 110, 116]⟩) ?_
          rintro _ s2 ⟨rfl, rest, e1, e2, e3, e4⟩
          rw [S_ret e1 e2 e3 e4]
          have hrg : rgetV cl r v.1 v.2 id ⟨#[105, 110, 116]⟩ = getV cl l v.1 v.2 id ⟨#[105, 110, 116]⟩ := by unfold rgetV getV; rw [hlook]; cases lookR r ((which cl v.1 v.2).1, id) <;> rfl
          obtain ⟨q1, q2, q3, hgv⟩ : ∃ q1 q2 q3 : Int, getV cl l v.1 v.2 id ⟨#[105, 110, 116]⟩ = .tup [.agg [.int .i64 q1, .int .i64 q2], .int .i64 q3] := by
            unfold getV
            split
            · split <;> exact ⟨_, _, _, rfl⟩
            · exact ⟨_, _, _, rfl⟩
          rw [hgv] at hrg ⊢
          simp
          refine callP_i (plain_ok _ _) ?_
          simp
          refine callP_i (rget_ok cl r v.1 v.2 id ⟨#[105, 110, 116]⟩ (by omega)) ?_
          rw [hrg]
          simp
          refine ⟨psafe_ids [2, List.length g + 1 + 1 + 1, List.length g + (rest.length + 1 + 1) + 1 + 1 + 1] [.ld 0, .comp, .ld 1, .comp, .comp, .ld 1, .comp, .comp, .comp, .comp, .new 2, .st 2, .comp] (by simp) (by simp [Cls.mp, pickN]) (by kernel_rfl), ?_⟩
          refine callP_i (plain_ok _ _) ?_
          simp
          refine ⟨by kernel_rfl, ?_⟩
          refine jcallP_i (class_j (cl := cl) v.1 v.2 (by first | omega | (simp; omega))) ?_
          rintro _ s2 ⟨rfl, rest3, e1, e2, e3, e4⟩
          rw [S_ret e1 e2 e3 e4]
          obtain ⟨cs, cb, hcv⟩ : ∃ cs cb, classV (cl) v.1 v.2 = .tup [.str cs, .bool cb] := by
            unfold classV; split <;> exact ⟨_, _, rfl⟩
          rw [hcv]
          simp
          refine callP_i (plain_ok _ _) ?_
          simp
          refine callP_i (rclass_ok (cl) (r) v.1 v.2 (by first | omega | (simp; omega))) ?_
          rw [hcv]
          simp
          refine ⟨by kernel_rfl, ?_⟩
          refine wpC_regF [0, 1, 2, 3, 4, 5, 6, 7, 8, 9] 10 [14, 15] [(11, _, [11, 12, 13, 14, 15]), (12, _, [12, 13, 14, 15]), (13, _, [13, 14, 15])] (by kernel_rfl) (by kernel_rfl) rfl ⟨rfl, rfl, rfl, trivial⟩ ?_
          simp
          refine ⟨by kernel_rfl, ?_, by kernel_rfl, ?_, by kernel_rfl, ?_, by kernel_rfl, ?_⟩
          all_goals
            refine jcallP_i (many_j (cl := cl)) ?_
            rintro _ s2 ⟨rfl, rest4, e1, e2, e3, e4⟩
            rw [S_ret e1 e2 e3 e4]
            simp
            refine ⟨by kernel_rfl, ?_⟩
            exact againK_i ⟨i + 1, k, kc, ks, cl, l, r⟩ _ ⟨h4, by simp; omega, by dsimp only; omega, hk, by dsimp only; omega, by dsimp only; omega, hkk, by dsimp only; omega, by dsimp only; omega, hcase, hlook⟩ (by dsimp only; omega) (by simp [w]) rfl (by simp)
        · have m0' : ((m : Int) == 0) = false := by simp; omega
          have m1' : ((m : Int) == 1) = false := by simp; omega
          simp [m0', m1']
          refine jcallP_i (set_j (cl := cl) (k := k) v.1 v.2 id x.1 x.2) ?_
          rintro _ s2 ⟨rfl, rest, e1, e2, e3, e4⟩
          rw [S_ret e1 e2 e3 e4]
          simp
          refine callP_e ?_
          refine wpC_regZ [0, 1, 2, 3, 4, 5, 6, 7, 8] 9 [10, 11, 12, 13, 14, 15] [10, 11, 12, 14, 15] 13 (by kernel_rfl) (by kernel_rfl) rfl rfl ?_
          simp
          refine callP_i (plain_ok _ _) ?_
          simp
          refine callP_i (plain_ok _ _) ?_
          simp
          refine ⟨by kernel_rfl, ?_, ?_, ?_⟩
          · refine callP_j (jcallP_i (rset_j (cl := cl) (l := r) (kc := kc) (ks := ks) (k1 := k) (k2 := kc) v.1 v.2 id x.1 x.2 hnx hkn hkkn hk hkk (by omega)) ?_)
            intro rr s2 hh
            unfold SetPost' at hh
            by_cases hw0 : (which cl v.1 v.2).2 = 0
            · rw [if_pos hw0] at hh
              obtain ⟨t, nx', rest2, hnx2, rfl, e1, e2, e3, e4⟩ := hh
              rw [S_ret e1 e2 e3 e4]
              simp [hw0]
              have hrl' : (rmK r ((which cl v.1 v.2).1, id) ++ [(((which cl v.1 v.2).1, id), x.1, x.2)]).length ≤ i + 1 := by
                have := rmK_len r ((which cl v.1 v.2).1, id)
                simp
                omega
              have hlook' : ∀ q, lookK (setF cl l v.1 v.2 id (x.1, x.2)) q = lookR (rmK r ((which cl v.1 v.2).1, id) ++ [(((which cl v.1 v.2).1, id), x.1, x.2)]) q := fun q => by
                unfold setF
                rw [if_pos hw0, lookK_put', lookR_put, hlook]
              refine ⟨by kernel_rfl, ?_⟩
              refine jcallP_i (class_j (cl := cl) v.1 v.2 (by first | omega | (simp; omega))) ?_
              rintro _ s2 ⟨rfl, rest3, e1, e2, e3, e4⟩
              rw [S_ret e1 e2 e3 e4]
              obtain ⟨cs, cb, hcv⟩ : ∃ cs cb, classV (cl) v.1 v.2 = .tup [.str cs, .bool cb] := by
                unfold classV; split <;> exact ⟨_, _, rfl⟩
              rw [hcv]
              simp
              refine callP_i (plain_ok _ _) ?_
              simp
              refine callP_i (rclass_ok (cl) (rmK r ((which cl v.1 v.2).1, id) ++ [(((which cl v.1 v.2).1, id), x.1, x.2)]) v.1 v.2 (by first | omega | (simp; omega))) ?_
              rw [hcv]
              simp
              refine ⟨by kernel_rfl, ?_⟩
              refine wpC_regF [0, 1, 2, 3, 4, 5, 6, 7, 8, 9] 10 [14, 15] [(11, _, [11, 12, 13, 14, 15]), (12, _, [12, 13, 14, 15]), (13, _, [13, 14, 15])] (by kernel_rfl) (by kernel_rfl) rfl ⟨rfl, rfl, rfl, trivial⟩ ?_
              simp
              refine ⟨by kernel_rfl, ?_, by kernel_rfl, ?_, by kernel_rfl, ?_, by kernel_rfl, ?_⟩
              all_goals
                refine jcallP_i (many_j (cl := cl)) ?_
                rintro _ s2 ⟨rfl, rest4, e1, e2, e3, e4⟩
                rw [S_ret e1 e2 e3 e4]
                simp
                refine ⟨by kernel_rfl, ?_⟩
                exact againK_i ⟨i + 1, k, kc, t, cl, setF cl l v.1 v.2 id (x.1, x.2), rmK r ((which cl v.1 v.2).1, id) ++ [(((which cl v.1 v.2).1, id), x.1, x.2)]⟩ _ ⟨h4, by simp; omega, by exact hrl', hk, by dsimp only; omega, by dsimp only; omega, hkk, by dsimp only; omega, by dsimp only; omega, hcase, hlook'⟩ (by dsimp only; omega) (by simp [w]) rfl (by simp)
            · rw [if_neg hw0] at hh
              obtain ⟨rfl, rest2, e1, e2, e3, e4⟩ := hh
              rw [S_ret e1 e2 e3 e4]
              simp
              have hlook' : ∀ q, lookK (setF cl l v.1 v.2 id (x.1, x.2)) q = lookR r q := fun q => by
                unfold setF
                rw [if_neg hw0, hlook]
              refine ⟨by kernel_rfl, ?_⟩
              refine jcallP_i (class_j (cl := cl) v.1 v.2 (by first | omega | (simp; omega))) ?_
              rintro _ s2 ⟨rfl, rest3, e1, e2, e3, e4⟩
              rw [S_ret e1 e2 e3 e4]
              obtain ⟨cs, cb, hcv⟩ : ∃ cs cb, classV (cl) v.1 v.2 = .tup [.str cs, .bool cb] := by
                unfold classV; split <;> exact ⟨_, _, rfl⟩
              rw [hcv]
              simp
              refine callP_i (plain_ok _ _) ?_
              simp
              refine callP_i (rclass_ok (cl) (r) v.1 v.2 (by first | omega | (simp; omega))) ?_
              rw [hcv]
              simp
              refine ⟨by kernel_rfl, ?_⟩
              refine wpC_regF [0, 1, 2, 3, 4, 5, 6, 7, 8, 9] 10 [14, 15] [(11, _, [11, 12, 13, 14, 15]), (12, _, [12, 13, 14, 15]), (13, _, [13, 14, 15])] (by kernel_rfl) (by kernel_rfl) rfl ⟨rfl, rfl, rfl, trivial⟩ ?_
              simp
              refine ⟨by kernel_rfl, ?_, by kernel_rfl, ?_, by kernel_rfl, ?_, by kernel_rfl, ?_⟩
              all_goals
                refine jcallP_i (many_j (cl := cl)) ?_
                rintro _ s2 ⟨rfl, rest4, e1, e2, e3, e4⟩
                rw [S_ret e1 e2 e3 e4]
                simp
                refine ⟨by kernel_rfl, ?_⟩
                exact againK_i ⟨i + 1, k, kc, ks, cl, setF cl l v.1 v.2 id (x.1, x.2), r⟩ _ ⟨h4, by simp; omega, by dsimp only; omega, hk, by dsimp only; omega, by dsimp only; omega, hkk, by dsimp only; omega, by dsimp only; omega, hcase, hlook'⟩ (by dsimp only; omega) (by simp [w]) rfl (by simp)
          · rintro _ _ (⟨rfl, rfl⟩ | ⟨rfl, rfl⟩ | ⟨rfl, rfl⟩ | ⟨rfl, rfl⟩ | ⟨rfl, rfl⟩ | ⟨rfl, rfl⟩ | ⟨rfl, rfl⟩ | ⟨rfl, rfl⟩ | ⟨rfl, rfl⟩)
            all_goals exact indepL_i rfl rfl (by kernel_rfl) (by simp [clash]; try omega)
          · refine callP_j (jcallP_i (rset_j (cl := cl) (l := r) (kc := kc) (ks := ks) (k1 := k) (k2 := kc) v.1 v.2 id x.1 x.2 hnx hkn hkkn hk hkk (by omega)) ?_)
            intro rr s2 hh
            unfold SetPost' at hh
            by_cases hw0 : (which cl v.1 v.2).2 = 0
            · rw [if_pos hw0] at hh
              obtain ⟨t, nx', rest2, hnx2, rfl, e1, e2, e3, e4⟩ := hh
              rw [S_ret e1 e2 e3 e4]
              simp [hw0]
              have hrl' : (rmK r ((which cl v.1 v.2).1, id) ++ [(((which cl v.1 v.2).1, id), x.1, x.2)]).length ≤ i + 1 := by
                have := rmK_len r ((which cl v.1 v.2).1, id)
                simp
                omega
              have hlook' : ∀ q, lookK (setF cl l v.1 v.2 id (x.1, x.2)) q = lookR (rmK r ((which cl v.1 v.2).1, id) ++ [(((which cl v.1 v.2).1, id), x.1, x.2)]) q := fun q => by
                unfold setF
                rw [if_pos hw0, lookK_put', lookR_put, hlook]
              refine ⟨by kernel_rfl, ?_⟩
              refine jcallP_i (class_j (cl := cl) v.1 v.2 (by first | omega | (simp; omega))) ?_
              rintro _ s2 ⟨rfl, rest3, e1, e2, e3, e4⟩
              rw [S_ret e1 e2 e3 e4]
              obtain ⟨cs, cb, hcv⟩ : ∃ cs cb, classV (cl) v.1 v.2 = .tup [.str cs, .bool cb] := by
                unfold classV; split <;> exact ⟨_, _, rfl⟩
              rw [hcv]
              simp
              refine callP_i (plain_ok _ _) ?_
              simp
              refine callP_i (rclass_ok (cl) (rmK r ((which cl v.1 v.2).1, id) ++ [(((which cl v.1 v.2).1, id), x.1, x.2)]) v.1 v.2 (by first | omega | (simp; omega))) ?_
              rw [hcv]
              simp
              refine ⟨by kernel_rfl, ?_⟩
              refine wpC_regF [0, 1, 2, 3, 4, 5, 6, 7, 8, 9] 10 [14, 15] [(11, _, [11, 12, 13, 14, 15]), (12, _, [12, 13, 14, 15]), (13, _, [13, 14, 15])] (by kernel_rfl) (by kernel_rfl) rfl ⟨rfl, rfl, rfl, trivial⟩ ?_
              simp
              refine ⟨by kernel_rfl, ?_, by kernel_rfl, ?_, by kernel_rfl, ?_, by kernel_rfl, ?_⟩
              all_goals
                refine jcallP_i (many_j (cl := cl)) ?_
                rintro _ s2 ⟨rfl, rest4, e1, e2, e3, e4⟩
                rw [S_ret e1 e2 e3 e4]
                simp
                refine ⟨by kernel_rfl, ?_⟩
                exact againK_i ⟨i + 1, k, kc, t, cl, setF cl l v.1 v.2 id (x.1, x.2), rmK r ((which cl v.1 v.2).1, id) ++ [(((which cl v.1 v.2).1, id), x.1, x.2)]⟩ _ ⟨h4, by simp; omega, by exact hrl', hk, by dsimp only; omega, by dsimp only; omega, hkk, by dsimp only; omega, by dsimp only; omega, hcase, hlook'⟩ (by dsimp only; omega) (by simp [w]) rfl (by simp)
            · rw [if_neg hw0] at hh
              obtain ⟨rfl, rest2, e1, e2, e3, e4⟩ := hh
              rw [S_ret e1 e2 e3 e4]
              simp
              have hlook' : ∀ q, lookK (setF cl l v.1 v.2 id (x.1, x.2)) q = lookR r q := fun q => by
                unfold setF
                rw [if_neg hw0, hlook]
              refine ⟨by kernel_rfl, ?_⟩
              refine jcallP_i (class_j (cl := cl) v.1 v.2 (by first | omega | (simp; omega))) ?_
              rintro _ s2 ⟨rfl, rest3, e1, e2, e3, e4⟩
              rw [S_ret e1 e2 e3 e4]
              obtain ⟨cs, cb, hcv⟩ : ∃ cs cb, classV (cl) v.1 v.2 = .tup [.str cs, .bool cb] := by
                unfold classV; split <;> exact ⟨_, _, rfl⟩
              rw [hcv]
              simp
              refine callP_i (plain_ok _ _) ?_
              simp
              refine callP_i (rclass_ok (cl) (r) v.1 v.2 (by first | omega | (simp; omega))) ?_
              rw [hcv]
              simp
              refine ⟨by kernel_rfl, ?_⟩
              refine wpC_regF [0, 1, 2, 3, 4, 5, 6, 7, 8, 9] 10 [14, 15] [(11, _, [11, 12, 13, 14, 15]), (12, _, [12, 13, 14, 15]), (13, _, [13, 14, 15])] (by kernel_rfl) (by kernel_rfl) rfl ⟨rfl, rfl, rfl, trivial⟩ ?_
              simp
              refine ⟨by kernel_rfl, ?_, by kernel_rfl, ?_, by kernel_rfl, ?_, by kernel_rfl, ?_⟩
              all_goals
                refine jcallP_i (many_j (cl := cl)) ?_
                rintro _ s2 ⟨rfl, rest4, e1, e2, e3, e4⟩
                rw [S_ret e1 e2 e3 e4]
                simp
                refine ⟨by kernel_rfl, ?_⟩
                exact againK_i ⟨i + 1, k, kc, ks, cl, setF cl l v.1 v.2 id (x.1, x.2), r⟩ _ ⟨h4, by simp; omega, by dsimp only; omega, hk, by dsimp only; omega, by dsimp only; omega, hkk, by dsimp only; omega, by dsimp only; omega, hcase, hlook'⟩ (by dsimp only; omega) (by simp [w]) rfl (by simp)
    · have : i = al.length := by omega
      subst this
      simp
  · have h100' : (100 : Int) < al.length := by omega
    simp [h100']
end Go.Proofs.AL
namespace Go.Proofs.AL
open Go Go.RowKit Go.Proofs.YtnhhanmkjpmcnaaDoor
set_option linter.unusedVariables false
set_option linter.unusedSimpArgs false
/-! ## What a law's argument reads as -/
/-- All cells of a block. -/
def mAll (w : World) : Nat → Nat := fun b => match w.heap[b]? with
  | some (.cells c _ _) => c.size
  | _ => 0
theorem mAll_end (w : World) (b : Nat) (h : w.heap.size ≤ b) : mAll w b = 0 := by
  unfold mAll
  rw [Array.getElem?_eq_none h]
theorem mAll_cell {w : World} {b o : Nat} {v : Value} (h : w.cell? ⟨b, o, none⟩ = some v) : o < mAll w b := by
  unfold World.cell? at h
  unfold mAll
  cases hb : w.heap[b]? with
  | none => rw [hb] at h; cases h
  | some ob =>
    rw [hb] at h
    cases ob with
    | cells c T q => exact (Array.getElem?_eq_some_iff.1 h).1
    | _ => cases h
theorem spot_none {w : World} {a : Addr} {v : Value} (h : w.cell? a = some v) : a.spot = none := by
  unfold World.cell? at h
  split at h
  · split at h
    · cases h
    · rename_i hs
      cases hsp : a.spot with
      | none => rfl
      | some _ => rw [hsp] at hs; exact absurd rfl hs
  · cases h
/-- Whatever reads as data of type t is a value with these cells, of a size that the datum tells, and as the reach allows. -/
def ToldAt {α : Type} (P : Program) (t : TypeId) (cells : α → List AV) (sz : α → Nat) (ok : α → Prop) (fuel : Nat) : Prop :=
  ∀ {H : Type} {enc : TypeId × Value → H} {w : World} {held : Bool} {cs : List Value} {z : DataW H × List MemPlace},
    DataW.trod enc P w 0 (fun _ => true) held fuel t cs = some z → (∀ q ∈ DataW.weights P t z.1, q ≤ 140737488351232) → ∃ x, VL (gh1 (mAll w)) w (cells x) cs ∧ ok x ∧ sz x ≤ Rows.uptoBulk z.1
def Told {α : Type} (P : Program) (t : TypeId) (cells : α → List AV) (sz : α → Nat) (ok : α → Prop) : Prop := ∀ fuel, ToldAt P t cells sz ok fuel
theorem mapM_get {α β : Type} {f : α → Option β} : ∀ {l : List α} {xs : List β}, l.mapM f = some xs → xs.length = l.length ∧ ∀ (i : Nat) (a : α), l[i]? = some a → f a = xs[i]? := by
  intro l
  induction l with
  | nil => intro xs h; rw [List.mapM_nil] at h; cases h; exact ⟨rfl, fun i a hi => by simp at hi⟩
  | cons b l ih =>
    intro xs h
    rw [List.mapM_cons] at h
    cases hy : f b with
    | none => rw [hy] at h; cases h
    | some y =>
      rw [hy] at h
      cases hys : l.mapM f with
      | none => rw [hys] at h; cases h
      | some ys =>
        rw [hys] at h
        cases h
        obtain ⟨hl, hg⟩ := ih hys
        refine ⟨by rw [List.length_cons, List.length_cons, hl], fun i a hi => ?_⟩
        cases i with
        | zero => rw [List.getElem?_cons_zero] at hi ⊢; injection hi with hi; subst hi; exact hy
        | succ i => rw [List.getElem?_cons_succ] at hi ⊢; exact hg i a hi
theorem cells_at {w : World} {base : Nat} {a : Addr} {n : Nat} {cs : List Value} (h : w.cells? base a n = some cs) : cs.length = n ∧ ∀ i u, cs[i]? = some u → w.cell? (a.add i) = some u := by
  unfold World.cells? at h
  split at h
  · obtain ⟨hl, hg⟩ := mapM_get h
    rw [List.length_range] at hl
    refine ⟨hl, fun i u hi => ?_⟩
    have hlt : i < n := by
      rcases Nat.lt_or_ge i n with h1 | h1
      · exact h1
      · rw [List.getElem?_eq_none (by omega)] at hi; cases hi
    rw [hg i i (by rw [List.getElem?_range hlt])]; exact hi
  · cases h
theorem bulk_one {H : Type} (d : DataW H) : 1 ≤ Rows.uptoBulk d := by
  cases d with
  | lit l => cases l <;> simp [Rows.uptoBulk]
  | nil => simp [Rows.uptoBulk]
  | ptr d => simp [Rows.uptoBulk]
  | slice elems spare => simp [Rows.uptoBulk]
  | agg parts => simp [Rows.uptoBulk]
  | iface u d => simp [Rows.uptoBulk]
  | map entries => simp [Rows.uptoBulk]
  | held t => simp [Rows.uptoBulk]
theorem told_int {P : Program} {t : TypeId} {k : IntKind} (hu : P.underlying t = some (.int k)) : Told P t (fun x : Int => [.int k x]) (fun _ => 1) (fun x => (Lit.int k x).wf = true) := by
  intro fuel H enc w held cs z h _
  obtain ⟨n, rfl, rfl, hw⟩ := DataW.trod_int hu h
  exact ⟨n, .cons (.int k n) rfl .nil, hw, bulk_one _⟩
theorem told_bool {P : Program} {t : TypeId} (hu : P.underlying t = some .bool) : Told P t (fun x : Bool => [.bool x]) (fun _ => 1) (fun _ => True) := by
  intro fuel H enc w held cs z h _
  obtain ⟨n, rfl, rfl⟩ := DataW.trod_bool hu h
  exact ⟨n, .cons (.bool n) rfl .nil, trivial, bulk_one _⟩
theorem told_string {P : Program} {t : TypeId} (hu : P.underlying t = some .string) : Told P t (fun s : ByteArray => [.str s]) (fun s => s.size + 1) (fun s => s.size ≤ 140737488351232) := by
  intro fuel H enc w held cs z h hq
  obtain ⟨s, rfl, rfl, hs⟩ := DataW.trod_string hu h
  refine ⟨s, .cons (.str s) rfl .nil, ?_, ?_⟩
  · have := hq s.data.toList.length (by simp [DataW.weights])
    simpa using this
  · simp [Rows.uptoBulk]
def sumOf {α : Type} (sz : α → Nat) : List α → Nat
  | [] => 0
  | x :: l => sz x + sumOf sz l
theorem sumOf_le {α : Type} (sz : α → Nat) {l : List α} {x : α} (h : x ∈ l) : sz x ≤ sumOf sz l := by
  induction l with
  | nil => cases h
  | cons y l ih =>
    rw [sumOf]
    cases h with
    | head => exact Nat.le_add_right _ _
    | tail _ h => exact Nat.le_trans (ih h) (Nat.le_add_left _ _)
theorem rows_told {α : Type} {P : Program} {e : TypeId} {cells : α → List AV} {sz : α → Nat} {ok : α → Prop} {n : Nat} (ht : ToldAt P e cells sz ok n) {H : Type} {enc : TypeId × Value → H} {w : World} {held : Bool} (get : Nat → Option (List Value)) :
    ∀ (elems : List (DataW H × List MemPlace)) (k : Nat), (∀ i, i < elems.length → (get (k + i)).bind (DataW.trod enc P w 0 (fun _ => true) held n e) = elems[i]?) → (∀ q ∈ DataW.weightsAll P e (elems.map (·.1)), q ≤ 140737488351232) →
    ∃ l : List α, l.length = elems.length ∧ (∀ i x, l[i]? = some x → ∃ cs, get (k + i) = some cs ∧ VL (gh1 (mAll w)) w (cells x) cs) ∧ (∀ x ∈ l, ok x) ∧ sumOf sz l ≤ Rows.uptoBulkAll (elems.map (·.1)) := by
  intro elems
  induction elems with
  | nil => intro k _ _; exact ⟨[], rfl, (fun i x hi => (by simp at hi)), (fun x hx => (by cases hx)), Nat.zero_le _⟩
  | cons y elems ih =>
    intro k h hq
    rw [List.map_cons, DataW.weightsAll] at hq
    have h0 := h 0 (by simp)
    rw [List.getElem?_cons_zero, Nat.add_zero] at h0
    cases hc : get k with
    | none => rw [hc] at h0; cases h0
    | some cs =>
      rw [hc] at h0
      obtain ⟨x, hx, hox, hsx⟩ := ht h0 (fun q hm => hq q (List.mem_append_left _ hm))
      obtain ⟨l, hl, hg, ho, hs⟩ := ih (k + 1) (fun i hi => by
        have := h (i + 1) (by rw [List.length_cons]; omega)
        rw [List.getElem?_cons_succ] at this
        rw [← this, show k + 1 + i = k + (i + 1) by omega]) (fun q hm => hq q (List.mem_append_right _ hm))
      refine ⟨x :: l, by rw [List.length_cons, List.length_cons, hl], fun i u hi => ?_, fun u hu => ?_, ?_⟩
      · cases i with
        | zero => rw [List.getElem?_cons_zero] at hi; injection hi with hi; subst hi; exact ⟨cs, hc, hx⟩
        | succ i => rw [List.getElem?_cons_succ] at hi; obtain ⟨c, h1, h2⟩ := hg i u hi; exact ⟨c, by rw [show k + (i + 1) = k + 1 + i by omega]; exact h1, h2⟩
      · cases hu with
        | head => exact hox
        | tail _ hu => exact ho u hu
      · rw [sumOf, List.map_cons, Rows.uptoBulkAll]; omega
/-- A slice: c: how many cells an element has; B: how many bytes. -/
theorem told_slice_at {α : Type} {P : Program} {t e : TypeId} {cells : α → List AV} {sz : α → Nat} {ok : α → Prop} (c B : Nat) (hc0 : 0 < c) (hu : P.underlying t = some (.slice e)) (hc : P.cellsOf e = c) (hb : P.bytesOf e = B) (hcl : ∀ x, (cells x).length = c) (fuel : Nat) (he : ∀ n, n < fuel → ToldAt P e cells sz ok n) :
    ToldAt P t (fun l : List α => [.sl 0 (l.map cells)]) (fun l => sumOf sz l + 1) (fun l => l.length * B ≤ 140737488351232 ∧ ∀ x ∈ l, ok x) fuel := by
  intro H enc w held cs z h hq
  rcases DataW.trod_slice hu h with ⟨rfl, rfl⟩ | ⟨a, len, cap, elems, rest, n, rfl, rfl, rfl, _, hlc, hcm, hlen, hel, _, _⟩
  · exact ⟨[], .cons (.sl0 (.inl rfl)) rfl .nil, ⟨by simp, (fun x hx => (by cases hx))⟩, bulk_one _⟩
  · simp only [DataW.weights, hu] at hq
    obtain ⟨l, hl, hg, ho, hs⟩ := rows_told (he n (Nat.lt_succ_self n)) (H := H) (enc := enc) (w := w) (held := held) (fun i => w.cells? 0 (a.add (i * P.cellsOf e)) (P.cellsOf e)) elems 0
      (fun i hi => by rw [Nat.zero_add]; exact hel i (by omega)) (fun q hm => hq q (List.mem_cons_of_mem _ (List.mem_append_left _ hm)))
    have hll : l.length = len := by omega
    refine ⟨l, .cons ?_ rfl .nil, ⟨?_, ho⟩, ?_⟩
    · rcases Nat.eq_zero_or_pos l.length with h0 | h0
      · have hnil : l = [] := List.eq_nil_of_length_eq_zero h0
        subst hnil
        have : len = 0 := by omega
        subst this
        exact .sl0 (.inl rfl)
      · have key : ∀ (j i : Nat) (el : List AV) (x : AV), (l.map cells)[j]? = some el → el[i]? = some x → ∃ u, w.cell? ⟨a.block, a.off + (j * c + i), none⟩ = some u ∧ u.oneCell' = true ∧ V (gh1 (mAll w)) w x u ∧ a.spot = none := by
          intro j i el x hj hi
          rw [List.getElem?_map] at hj
          obtain ⟨p, hp, rfl⟩ := Option.map_eq_some_iff.1 hj
          obtain ⟨cs, h1, h2⟩ := hg j p hp
          rw [Nat.zero_add] at h1
          obtain ⟨g1, g2⟩ := cells_at h1
          have hil : i < cs.length := by have := (List.getElem?_eq_some_iff.1 hi).1; rw [h2.1] at this; exact this
          obtain ⟨v1, v2⟩ := h2.2 i x cs[i] hi (List.getElem?_eq_getElem hil)
          have hcell := g2 i cs[i] (List.getElem?_eq_getElem hil)
          rw [hc, Addr.add_add] at hcell
          have hsp := spot_none hcell
          by_cases h00 : j * c + i = 0
          · have e0 : a.add (j * c + i) = a := by unfold Addr.add; rw [if_pos h00]
            rw [e0] at hcell hsp
            have ea : (⟨a.block, a.off + (j * c + i), none⟩ : Addr) = a := by rw [h00, Nat.add_zero, ← hsp]
            exact ⟨_, by rw [ea]; exact hcell, v2, v1, hsp⟩
          · have e0 : a.add (j * c + i) = ⟨a.block, a.off + (j * c + i), none⟩ := by unfold Addr.add; rw [if_neg h00]
            rw [e0] at hcell
            have h0' : 0 < l.length := h0
            -- the row's own place: of its first cell
            have hp0 : l[0]? = some l[0] := List.getElem?_eq_getElem h0'
            obtain ⟨cs0, k1, k2⟩ := hg 0 _ hp0
            obtain ⟨q1, q2⟩ := cells_at k1
            have hl0 : 0 < cs0.length := by rw [q1, hc]; exact hc0
            have hz := q2 0 _ (List.getElem?_eq_getElem hl0)
            have ez : (a.add ((0 + 0) * P.cellsOf e)).add 0 = a := by unfold Addr.add; simp
            rw [ez] at hz
            exact ⟨_, hcell, v2, v1, spot_none hz⟩
        have hsp : a.spot = none := by
          have hel0 : (l.map cells)[0]? = some (cells l[0]) := by rw [List.getElem?_map, List.getElem?_eq_getElem h0]; rfl
          have hc1 : 0 < (cells l[0]).length := by rw [hcl]; exact hc0
          obtain ⟨_, _, _, _, h4⟩ := key 0 0 _ _ hel0 (List.getElem?_eq_getElem hc1)
          exact h4
        have ea : a = ⟨a.block, a.off, none⟩ := by cases a; simp at hsp; subst hsp; rfl
        rw [ea]
        refine .sl (sz := c) (fun j i => (w.cell? ⟨a.block, a.off + (j * c + i), none⟩).getD undef) (by omega) (by simp; omega) hlc hcm hc0 (fun el hel => ?_) (.inl rfl) (fun j i el x hj hi => ?_) (fun j i el x hj hi => ?_)
        · obtain ⟨p, _, rfl⟩ := List.mem_map.1 hel
          exact hcl p
        · obtain ⟨u, h1, h2, h3, _⟩ := key j i el x hj hi
          exact ⟨mAll_cell h1, by rw [h1]; rfl, by rw [h1]; exact h2⟩
        · obtain ⟨u, h1, h2, h3, _⟩ := key j i el x hj hi
          rw [h1]; exact h3
    · have := hq ((elems.length + rest.length) * P.bytesOf e) (by simp)
      rw [hb] at this
      rw [hl]
      exact Nat.le_trans (Nat.mul_le_mul_right _ (Nat.le_add_right _ _)) this
    · simp only [Rows.uptoBulk]; omega
theorem told_slice {α : Type} {P : Program} {t e : TypeId} {cells : α → List AV} {sz : α → Nat} {ok : α → Prop} (c B : Nat) (hc0 : 0 < c) (hu : P.underlying t = some (.slice e)) (hc : P.cellsOf e = c) (hb : P.bytesOf e = B) (hcl : ∀ x, (cells x).length = c) (he : Told P e cells sz ok) :
    Told P t (fun l : List α => [.sl 0 (l.map cells)]) (fun l => sumOf sz l + 1) (fun l => l.length * B ≤ 140737488351232 ∧ ∀ x ∈ l, ok x) := fun fuel => told_slice_at c B hc0 hu hc hb hcl fuel (fun n _ => he n)
theorem ToldAt.map {α β : Type} {P : Program} {t : TypeId} {cells : α → List AV} {sz : α → Nat} {ok : α → Prop} {fuel : Nat} (h : ToldAt P t cells sz ok fuel) {cells' : β → List AV} {sz' : β → Nat} {ok' : β → Prop} (f : α → β) (h1 : ∀ x, cells' (f x) = cells x) (h2 : ∀ x, sz' (f x) ≤ sz x) (h3 : ∀ x, ok x → ok' (f x)) : ToldAt P t cells' sz' ok' fuel := by
  intro H enc w held cs z h' hq
  obtain ⟨x, a, b, c⟩ := h h' hq
  exact ⟨f x, by rw [h1]; exact a, h3 x b, Nat.le_trans (h2 x) c⟩
/-- A field's part of a struct's cells. -/
theorem told_field {α : Type} {P : Program} {t : TypeId} {cells : α → List AV} {sz : α → Nat} {ok : α → Prop} {n : Nat} (ht : ToldAt P t cells sz ok n) {H : Type} {enc : TypeId × Value → H} {w : World} {held : Bool} {cs : List Value} {off k : Nat} {y : DataW H × List MemPlace} (hk : P.cellsOf t = k)
    (h : DataW.trod enc P w 0 (fun _ => true) held n t ((cs.drop off).take (P.cellsOf t)) = some y) (hq : ∀ q ∈ DataW.weights P t y.1, q ≤ 140737488351232) : ∃ x, VL (gh1 (mAll w)) w (cells x) ((cs.drop off).take k) ∧ ok x ∧ sz x ≤ Rows.uptoBulk y.1 := by
  rw [hk] at h
  exact ht h hq
/-- An argument, by its reading and its weights. -/
theorem told_arg {α : Type} {P : Program} {t : TypeId} {cells : α → List AV} {sz : α → Nat} {ok : α → Prop} (ht : Told P t cells sz ok) {H : Type} {enc : TypeId × Value → H} {w : World} {held : Bool} {ts : List TypeId} {ds : List (DataW H)} {j : Nat} {v : Value} {z : DataW H} {ps : List MemPlace}
    (h : DataW.Trod enc P w 0 (fun _ => true) held t v z ps) (hsz : (DataW.weightsEach P ts ds).all (· ≤ reachBytes) = true) (hj : ts[j]? = some t) (hd : ds[j]? = some z) : ∃ x, VL (gh1 (mAll w)) w (cells x) v.cells.toList ∧ ok x ∧ sz x ≤ Rows.uptoBulk z := by
  obtain ⟨fuel, hf⟩ := h
  obtain ⟨x, h1, h2, h3⟩ := ht fuel hf (fun q hq => by
    have := List.all_eq_true.1 hsz q (DataW.weights_mem_each hj hd q hq)
    exact of_decide_eq_true this)
  exact ⟨x, h1, h2, h3⟩
theorem vl_one {G : Gh} {w : World} {x : AV} {v : Value} (h : VL G w [x] v.cells.toList) (hn : ∀ cs, v ≠ .agg cs) : V G w x v := by
  cases v with
  | agg cs => exact absurd rfl (hn cs)
  | _ => exact (h.2 0 _ _ rfl rfl).1
theorem vl_struct {G : Gh} {w : World} {xs : List AV} {v : Value} (h : VL G w xs v.cells.toList) (hn : xs.length ≠ 1) : V G w (.agg xs) v := by
  cases v with
  | agg cs => exact VL.agg h
  | _ => exact absurd h.1 hn
theorem vl_agg {G : Gh} {w : World} {xs : List AV} {cs : Array Value} (h : VL G w xs (Value.agg cs).cells.toList) : V G w (.agg xs) (.agg cs) := VL.agg h
/-- The law's call: true, and what there was is as it was. -/
theorem law_calls {C : Cx} {f : FuncId} {args : List AV} (h : ACall C f args (.bool true) none) {W : World} {vs : Array Value} (hgi : C.GI W) (hl : vs.size = args.length) (hV : ∀ (i : Nat) (x : AV) (v : Value), args[i]? = some x → vs[i]? = some v → V (gh1 (mAll W)) W x v) :
    Calls C.P f vs W fun e w' => e = .returned (.bool true) ∧ Below W.heap.size W w' :=
  (h.2 (mAll W) W vs hgi (fun b hb => mAll_end W b hb) hl hV).mono (fun e w' ⟨v, m', he, hb, _, _, hv, _⟩ => ⟨by rw [he]; cases hv; rfl, hb⟩)
end Go.Proofs.AL
namespace Go.Proofs.AL
open Go Go.RowKit Go.Proofs.Tryd Go.Proofs.YtnhhanmkjpmcnaaDoor
set_option maxRecDepth 100000
set_option linter.unusedVariables false
def iok (n : Int) : Prop := (Lit.int .i64 n).wf = true
theorem told_val : Told prog 31 (fun v : Int × Int => [.int .i64 v.1, .int .i64 v.2]) (fun v => 1) (fun v => iok v.1 ∧ iok v.2) := by
  intro fuel H enc w held cs z h hq
  obtain ⟨xs, n, rfl, rfl, hl, hlen, hf⟩ := DataW.trod_struct Tryd.underlying31 h
  have et : prog.cellsOf 31 = 2 := by kernel_rfl
  rw [et] at hl
  simp only [DataW.weights, Tryd.underlying31] at hq
  match cs, hl with
  | [v0, v1], _ =>
    match xs, hlen with
    | [y0, y1], _ =>
      simp only [List.map_cons, List.map_nil, DataW.weightsEach, List.append_nil] at hq
      obtain ⟨x0, g0, o0, s0⟩ := told_field ((@told_int prog 3 .i64 Tryd.underlying3) n) (k := 1) (off := 0) (by kernel_rfl) (hf 0 _ rfl) (fun q hm => hq q (by simp [hm]))
      obtain ⟨x1, g1, o1, s1⟩ := told_field ((@told_int prog 2 .i64 Tryd.underlying2) n) (k := 1) (off := 1) (by kernel_rfl) (hf 1 _ rfl) (fun q hm => hq q (by simp [hm]))
      refine ⟨(x0, x1), ?_, ⟨o0, o1⟩, ?_⟩
      · have := (g0.append g1)
        simpa using this
      · simp only [Rows.uptoBulk, List.map_cons, List.map_nil, Rows.uptoBulkAll]
        first | omega | (simp; omega)
end Go.Proofs.AL
namespace Go.Proofs.AL
open Go Go.RowKit Go.Proofs.Tryd Go.Proofs.YtnhhanmkjpmcnaaDoor
set_option maxRecDepth 100000
set_option linter.unusedVariables false
theorem told_act : Told prog 33 (fun q : Act => [.int .i64 q.1, .int .i64 q.2.1.1, .int .i64 q.2.1.2, .str q.2.2.1, .int .i64 q.2.2.2.1, .int .i64 q.2.2.2.2]) (fun q => 1) (fun q => iok q.1 ∧ (iok q.2.1.1 ∧ iok q.2.1.2) ∧ q.2.2.1.size ≤ 140737488351232 ∧ (iok q.2.2.2.1 ∧ iok q.2.2.2.2)) := by
  intro fuel H enc w held cs z h hq
  obtain ⟨xs, n, rfl, rfl, hl, hlen, hf⟩ := DataW.trod_struct Tryd.underlying33 h
  have et : prog.cellsOf 33 = 6 := by kernel_rfl
  rw [et] at hl
  simp only [DataW.weights, Tryd.underlying33] at hq
  match cs, hl with
  | [v0, v1, v2, v3, v4, v5], _ =>
    match xs, hlen with
    | [y0, y1, y2, y3], _ =>
      simp only [List.map_cons, List.map_nil, DataW.weightsEach, List.append_nil] at hq
      obtain ⟨x0, g0, o0, s0⟩ := told_field ((@told_int prog 3 .i64 Tryd.underlying3) n) (k := 1) (off := 0) (by kernel_rfl) (hf 0 _ rfl) (fun q hm => hq q (by simp [hm]))
      obtain ⟨x1, g1, o1, s1⟩ := told_field ((told_val) n) (k := 2) (off := 1) (by kernel_rfl) (hf 1 _ rfl) (fun q hm => hq q (by simp [hm]))
      obtain ⟨x2, g2, o2, s2⟩ := told_field ((@told_string prog 9 Tryd.underlying9) n) (k := 1) (off := 3) (by kernel_rfl) (hf 2 _ rfl) (fun q hm => hq q (by simp [hm]))
      obtain ⟨x3, g3, o3, s3⟩ := told_field ((told_val) n) (k := 2) (off := 4) (by kernel_rfl) (hf 3 _ rfl) (fun q hm => hq q (by simp [hm]))
      refine ⟨(x0, x1, x2, x3), ?_, ⟨o0, o1, o2, o3⟩, ?_⟩
      · have := (((g0.append g1).append g2).append g3)
        simpa using this
      · simp only [Rows.uptoBulk, List.map_cons, List.map_nil, Rows.uptoBulkAll]
        first | omega | (simp; omega)
end Go.Proofs.AL
namespace Go.Proofs.AL
open Go Go.RowKit Go.ChangeShapes Go.WideShapes Go.ChangeAt Go.Proofs.YtnhhanmkjpmcnaaDoor
/-! ### what the package's variables hold, out of the row's condition -/
theorem iface_reads {H : Type} {enc : TypeId × Value → H} {P : Program} {w : World} {base : Nat} {sp : Nat → Bool} {fuel : Nat} {t : TypeId} {ms : Array (String × TypeId)} {cs : List Value} {nm : String} {d : DataW H} {p : List MemPlace}
    (ht : P.underlying t = some (.interface ms)) (h : DataW.trod enc P w base sp false fuel t cs = some (.iface nm d, p)) : ∃ u v, cs = [.iface u v] := by
  cases fuel with
  | zero => simp [DataW.trod] at h
  | succ n =>
    unfold DataW.trod at h
    rw [ht] at h
    split at h <;> simp_all
theorem vars_of_laid {W : World} (h : laidMetH Tryd.prog Rows.heapShowsRow.laid W) : VarsOk W := by
  rw [MakeChecks.laidMetH_plain _ _ _ (by kernel_rfl)] at h
  obtain ⟨ps, ⟨g0, t0, cs0, f0, p0, q0, hg0, ht0, hv0, hd0, ⟨g1, t1, cs1, f1, p1, q1, hg1, ht1, hv1, hd1, ⟨g2, t2, cs2, f2, p2, q2, hg2, ht2, hv2, hd2, _, _⟩, _⟩, _⟩, _, _⟩ := h
  obtain rfl := Option.some.inj ((show Tryd.prog.globalNamed "internal/strconv.uint64pow10" = some 0 by kernel_rfl).symm.trans hg2)
  obtain rfl := Option.some.inj ((show (Tryd.prog.globals[0]?).map (·.type) = some 88 by kernel_rfl).symm.trans ht2)
  have e : Rows.laid_internal_strconv_uint64pow10 (H := Unit) = Lib.tabData .u64 Lib.pow10Tab := by kernel_rfl
  rw [e] at hd2
  have := Lib.cells_of_tab Tryd.underlying88 Tryd.underlying81 (by kernel_rfl) (by kernel_rfl) hd2
  show W.var? Tryd.prog _ = _
  rw [hv2, ← this]
theorem fit_of {n : Int} (h : (Lit.int .i64 n).wf = true) : Fit64 n := by
  have h1 : IntKind.i64.min = -9223372036854775808 := by decide
  have h2 : IntKind.i64.max = 9223372036854775807 := by decide
  simp only [Lit.wf, Bool.and_eq_true, decide_eq_true_eq, h1, h2] at h
  exact h
set_option maxRecDepth 100000 in
theorem door_met (os : Os) (args : Array Value) : laidMetH Tryd.prog Rows.heapShowsRow.laid ((World.doorLaid Tryd.prog 24 os).forCall (fun _ _ => 0) ⟨#[], args, []⟩).memory :=
  laidMetH_of_parts3 (fuel := 8) (laidMet_of_run' 8 (by kernel_rfl) (by kernel_rfl)) (by kernel_rfl) (by kernel_rfl)
end Go.Proofs.AL
