/- What the functions that the law NodePlaces reaches compute, and the law (part 2). -/
import Derived.Test.YtoadkinlfgcikaaAlNodePlaces1
namespace Go.Proofs.AL
open Go Go.RowKit Go.Proofs.Try
set_option maxRecDepth 100000
set_option linter.unusedSimpArgs false
@[simp] theorem Nd.take1 (x : Nd) : x.cells.take 1 = [.int .i64 x.kind] := by rw [Nd.cells_eq]; rfl
@[simp] theorem Nd.drop1 (x : Nd) : x.cells.drop 1 = [.str x.text, .str x.type, .int .i64 x.n, .int .i64 x.from_, .int .i64 x.to, .int .i64 x.at_, .int .i64 x.typeAt, .sl 0 (Nd.rows x.kids)] := by rw [Nd.cells_eq]; rfl
@[simp] theorem Nd.take2 (x : Nd) : x.cells.take 2 = [.int .i64 x.kind, .str x.text] := by rw [Nd.cells_eq]; rfl
@[simp] theorem Nd.drop2 (x : Nd) : x.cells.drop 2 = [.str x.type, .int .i64 x.n, .int .i64 x.from_, .int .i64 x.to, .int .i64 x.at_, .int .i64 x.typeAt, .sl 0 (Nd.rows x.kids)] := by rw [Nd.cells_eq]; rfl
@[simp] theorem Nd.take3 (x : Nd) : x.cells.take 3 = [.int .i64 x.kind, .str x.text, .str x.type] := by rw [Nd.cells_eq]; rfl
@[simp] theorem Nd.drop3 (x : Nd) : x.cells.drop 3 = [.int .i64 x.n, .int .i64 x.from_, .int .i64 x.to, .int .i64 x.at_, .int .i64 x.typeAt, .sl 0 (Nd.rows x.kids)] := by rw [Nd.cells_eq]; rfl
@[simp] theorem Nd.take4 (x : Nd) : x.cells.take 4 = [.int .i64 x.kind, .str x.text, .str x.type, .int .i64 x.n] := by rw [Nd.cells_eq]; rfl
@[simp] theorem Nd.drop4 (x : Nd) : x.cells.drop 4 = [.int .i64 x.from_, .int .i64 x.to, .int .i64 x.at_, .int .i64 x.typeAt, .sl 0 (Nd.rows x.kids)] := by rw [Nd.cells_eq]; rfl
@[simp] theorem Nd.take5 (x : Nd) : x.cells.take 5 = [.int .i64 x.kind, .str x.text, .str x.type, .int .i64 x.n, .int .i64 x.from_] := by rw [Nd.cells_eq]; rfl
@[simp] theorem Nd.drop5 (x : Nd) : x.cells.drop 5 = [.int .i64 x.to, .int .i64 x.at_, .int .i64 x.typeAt, .sl 0 (Nd.rows x.kids)] := by rw [Nd.cells_eq]; rfl
@[simp] theorem Nd.take6 (x : Nd) : x.cells.take 6 = [.int .i64 x.kind, .str x.text, .str x.type, .int .i64 x.n, .int .i64 x.from_, .int .i64 x.to] := by rw [Nd.cells_eq]; rfl
@[simp] theorem Nd.drop6 (x : Nd) : x.cells.drop 6 = [.int .i64 x.at_, .int .i64 x.typeAt, .sl 0 (Nd.rows x.kids)] := by rw [Nd.cells_eq]; rfl
@[simp] theorem Nd.take7 (x : Nd) : x.cells.take 7 = [.int .i64 x.kind, .str x.text, .str x.type, .int .i64 x.n, .int .i64 x.from_, .int .i64 x.to, .int .i64 x.at_] := by rw [Nd.cells_eq]; rfl
@[simp] theorem Nd.drop7 (x : Nd) : x.cells.drop 7 = [.int .i64 x.typeAt, .sl 0 (Nd.rows x.kids)] := by rw [Nd.cells_eq]; rfl
@[simp] theorem Nd.take8 (x : Nd) : x.cells.take 8 = [.int .i64 x.kind, .str x.text, .str x.type, .int .i64 x.n, .int .i64 x.from_, .int .i64 x.to, .int .i64 x.at_, .int .i64 x.typeAt] := by rw [Nd.cells_eq]; rfl
@[simp] theorem Nd.drop8 (x : Nd) : x.cells.drop 8 = [.sl 0 (Nd.rows x.kids)] := by rw [Nd.cells_eq]; rfl

theorem Nd.eachL_map (F : Nd → Nd) (l : List Nd) : Nd.eachL F l = l.map (Nd.each F) := by
  induction l with
  | nil => rfl
  | cons y l ih2 => rw [Nd.eachL, ih2]; rfl
theorem Nd.each_eq (F : Nd → Nd) (x : Nd) : x.each F = F (.mk x.kind x.text x.type x.n x.from_ x.to x.at_ x.typeAt (x.kids.map (Nd.each F))) := by
  cases x; rw [Nd.each, Nd.eachL_map]; rfl
theorem each_take (F : Nd → Nd) {l : List Nd} {i : Nat} (h : i < l.length) : List.take (i + 1) (l.map (Nd.each F)) = List.take i (l.map (Nd.each F)) ++ [l[i].each F] := by
  rw [← List.map_take, List.take_succ_eq_append_getElem h, List.map_append, List.map_take]; rfl
/-- A loop that appends what becomes of each of the kids: what holds ahead of its rounds. -/
def shift1 (by_ : Int) (x : Nd) : Nd := .mk x.kind x.text x.type x.n (IntKind.i64.wrap (x.from_ + by_)) (IntKind.i64.wrap (x.to + by_)) (if 0 ≤ x.at_ then IntKind.i64.wrap (x.at_ + by_) else x.at_) (if 0 ≤ x.typeAt then IntKind.i64.wrap (x.typeAt + by_) else x.typeAt) x.kids
def rename1 (kind : Int) (a b : ByteArray) (x : Nd) : Nd := .mk x.kind (if x.text = a ∧ (kind = 0 ∨ x.kind = kind ∨ (kind = 1 ∧ x.kind = 21)) then b else x.text) (if kind = 1 ∧ x.type = a then b else x.type) x.n x.from_ x.to x.at_ x.typeAt x.kids
set_option maxHeartbeats 4000000 in
theorem refPlain_ok (x : Nd) (hb : x.count ≤ 10000000) : ACall cx 22 [.agg x.cells] (.agg (x.each plain1).cells) none := by
  induction x using Nd.ind with | _ x ih
  refine ACall.wpl (C := cx) T.func_22 (by kernel_rfl) rfl (by rfl) (fun hL => ?_)
  have hlen := Nd.lens (x := x) (t := 0) hL (by simp)
  clear hL
  rw [Nd.count_eq] at hb
  have hlc := Nd.len_count x.kids
  simp [f22]
  refine loopK [1, 2] (fun (p : Nat × Nat) nx => p.1 ≤ x.kids.length ∧ p.2 ≠ 0 ∧ p.2 ≠ 2 ∧ p.2 < nx) (fun p => [(4, .int .i64 (p.1 : Nat)), (3, .sl p.2 (Nd.rows ((x.kids.take p.1).map (Nd.each plain1))))]) (fun _ => [x.cells, zRow]) (fun p => [(p.2, .ty 24)]) (fun p => x.kids.length - p.1) (0, 1) ⟨by simp, by simp, by simp, by simp⟩ (by simp) [] rfl (by simp) ?_
  rintro ⟨i, k⟩ nx g ⟨hi, hk, hk2, hkn⟩ hnx -
  dsimp only at hi hk hk2 hkn
  simp
  refine split2_i (fun h3 => ?_) (fun h3 => ?_) <;> simp [h3]
  · simp at h3
    have c1 := Nd.count_get h3
    simp [h3]
    refine callP_i (ih _ (List.getElem_mem _) (by omega)) ?_
    simp
    have hkn' : ¬ nx = k := by omega
    have hnx0 : ¬ nx = 0 := by omega
    have h0 : min i x.kids.length = i := by omega
    simp [hk, hk2, hkn', hnx0, h0]
    refine ⟨b104 (by omega), ?_⟩
    exact againK_i (i + 1, nx) _ ⟨h3, hnx0, by dsimp only; omega, by simp⟩ (by dsimp only; omega) (by simp [wrap64_i h3 hlen, each_take _ h3]) rfl (by simp)
  · simp at h3
    have : i = x.kids.length := by omega
    subst this
    simp [zRow]
    rw [Nd.each_eq, List.take_of_length_le (by simp)]
    simp [plain1]
set_option maxHeartbeats 4000000 in
theorem refShift_ok (x : Nd) (n : Int) (hb : x.count ≤ 10000000) : ACall cx 24 [.agg x.cells, .int .i64 n] (.agg (x.each (shift1 n)).cells) none := by
  induction x using Nd.ind with | _ x ih
  refine ACall.wpl (C := cx) T.func_24 (by kernel_rfl) rfl (by rfl) (fun hL => ?_)
  have hlen := Nd.lens (x := x) (t := 0) hL (by simp)
  clear hL
  rw [Nd.count_eq] at hb
  have hlc := Nd.len_count x.kids
  simp [f24]
  refine loopK [1, 2, 4] (fun (p : Nat × Nat) nx => p.1 ≤ x.kids.length ∧ p.2 ≠ 0 ∧ p.2 ≠ 2 ∧ p.2 < nx) (fun p => [(6, .int .i64 (p.1 : Nat)), (5, .sl p.2 (Nd.rows ((x.kids.take p.1).map (Nd.each (shift1 n)))))]) (fun _ => [x.cells, zRow]) (fun p => [(p.2, .ty 24)]) (fun p => x.kids.length - p.1) (0, 1) ⟨by simp, by simp, by simp, by simp⟩ (by simp) [] rfl (by simp) ?_
  rintro ⟨i, k⟩ nx g ⟨hi, hk, hk2, hkn⟩ hnx -
  dsimp only at hi hk hk2 hkn
  simp
  refine split2_i (fun h3 => ?_) (fun h3 => ?_) <;> simp [h3]
  · simp at h3
    have c1 := Nd.count_get h3
    simp [h3]
    refine callP_i (ih _ (List.getElem_mem _) (by omega)) ?_
    simp
    have hkn' : ¬ nx = k := by omega
    have hnx0 : ¬ nx = 0 := by omega
    have h0 : min i x.kids.length = i := by omega
    simp [hk, hk2, hkn', hnx0, h0]
    refine ⟨b104 (by omega), ?_⟩
    exact againK_i (i + 1, nx) _ ⟨h3, hnx0, by dsimp only; omega, by simp⟩ (by dsimp only; omega) (by simp [wrap64_i h3 hlen, each_take _ h3]) rfl (by simp)
  · simp at h3
    have : i = x.kids.length := by omega
    subst this
    clear ih
    simp [zRow]
    rw [Nd.each_eq, List.take_of_length_le (by simp)]
    by_cases e1 : 0 ≤ x.at_ <;> by_cases e2 : 0 ≤ x.typeAt <;> simp [e1, e2, shift1]
set_option maxHeartbeats 4000000 in
theorem refRename_ok (x : Nd) (n : Int) (a b : ByteArray) (hb : x.count ≤ 10000000) : ACall cx 26 [.agg x.cells, .int .i64 n, .str a, .str b] (.agg (x.each (rename1 n a b)).cells) none := by
  induction x using Nd.ind with | _ x ih
  refine ACall.wpl (C := cx) T.func_26 (by kernel_rfl) rfl (by rfl) (fun hL => ?_)
  have hlen := Nd.lens (x := x) (t := 0) hL (by simp)
  clear hL
  rw [Nd.count_eq] at hb
  have hlc := Nd.len_count x.kids
  simp [f26]
  refine loopK [1, 2, 3, 4, 8] (fun (p : Nat × Nat) nx => p.1 ≤ x.kids.length ∧ p.2 ≠ 0 ∧ p.2 ≠ 2 ∧ p.2 < nx) (fun p => [(10, .int .i64 (p.1 : Nat)), (9, .sl p.2 (Nd.rows ((x.kids.take p.1).map (Nd.each (rename1 n a b)))))]) (fun _ => [x.cells, zRow]) (fun p => [(p.2, .ty 24)]) (fun p => x.kids.length - p.1) (0, 1) ⟨by simp, by simp, by simp, by simp⟩ (by simp) [] rfl (by simp) ?_
  rintro ⟨i, k⟩ nx g ⟨hi, hk, hk2, hkn⟩ hnx -
  dsimp only at hi hk hk2 hkn
  simp
  refine split2_i (fun h3 => ?_) (fun h3 => ?_) <;> simp [h3]
  · simp at h3
    have c1 := Nd.count_get h3
    simp [h3]
    refine callP_i (ih _ (List.getElem_mem _) (by omega)) ?_
    simp
    have hkn' : ¬ nx = k := by omega
    have hnx0 : ¬ nx = 0 := by omega
    have h0 : min i x.kids.length = i := by omega
    simp [hk, hk2, hkn', hnx0, h0]
    refine ⟨b104 (by omega), ?_⟩
    exact againK_i (i + 1, nx) _ ⟨h3, hnx0, by dsimp only; omega, by simp⟩ (by dsimp only; omega) (by simp [wrap64_i h3 hlen, each_take _ h3]) rfl (by simp)
  · simp at h3
    have : i = x.kids.length := by omega
    subst this
    clear ih
    simp [zRow]
    rw [Nd.each_eq, List.take_of_length_le (by simp)]
    repeat' ((with_reducible refine split2_i (fun h => ?_) (fun h => ?_)) <;> simp [h])
    all_goals (simp_all [rename1] <;> (subst_vars; simp))
/-! ### by closures -/
set_option maxHeartbeats 4000000 in
theorem shiftC_ok (n : Int) (x : Nd) : ACall cx 41 [.agg x.cells, .cptr [.int .i64 n], .cptr [.fn (.func 40) [] [.cptr [.int .i64 n]]]] (.agg (shift1 n x).cells) none := by
  refine ACall.wpl (C := cx) T.func_41 (by kernel_rfl) rfl (by rfl) (fun hL => ?_)
  clear hL
  simp [f41]
  refine ⟨by kernel_rfl, ?_⟩
  by_cases e1 : 0 ≤ x.at_ <;> by_cases e2 : 0 ≤ x.typeAt
  all_goals
    refine jcallP_in T.func_40 (by kernel_rfl) rfl (by rfl) (fun _ => ?_)
    simp [f40, e1]
    first | (refine ⟨by kernel_rfl, ?_⟩) | skip
    refine jcallP_in T.func_40 (by kernel_rfl) rfl (by rfl) (fun _ => ?_)
    simp [f40, e2]
    first | (refine ⟨by kernel_rfl, ?_⟩) | skip
    simp [shift1, e1, e2]
theorem renameC_ok (n : Int) (a b : ByteArray) (x : Nd) : ACall cx 42 [.agg x.cells, .cptr [.str a], .cptr [.int .i64 n], .cptr [.str b]] (.agg (rename1 n a b x).cells) none := by
  refine ACall.wpl (C := cx) T.func_42 (by kernel_rfl) rfl (by rfl) (fun hL => ?_)
  clear hL
  simp [f42]
  repeat' ((with_reducible refine split2_i (fun h => ?_) (fun h => ?_)) <;> simp [h])
  all_goals (simp_all [rename1] <;> (subst_vars; simp))
theorem shift_ok (n : Int) (x : Nd) (hb : x.count ≤ 10000000) : ACall cx 23 [.agg x.cells, .int .i64 n] (.agg (x.each (shift1 n)).cells) none := by
  refine ACall.wpl (C := cx) T.func_23 (by kernel_rfl) rfl (by rfl) (fun hL => ?_)
  clear hL
  simp [f23]
  refine jcallP_kill 1 rfl rfl ?_
  simp
  refine jcallP_kill 3 rfl rfl ?_
  simp
  refine jcallP_a (each_ok _ _ rfl (shift1 n) (shiftC_ok n) x hb) (by simp) (by simp) ?_
  simp
theorem rename_ok (n : Int) (a b : ByteArray) (x : Nd) (hb : x.count ≤ 10000000) : ACall cx 25 [.agg x.cells, .int .i64 n, .str a, .str b] (.agg (x.each (rename1 n a b)).cells) none := by
  refine ACall.wpl (C := cx) T.func_25 (by kernel_rfl) rfl (by rfl) (fun hL => ?_)
  clear hL
  simp [f25]
  refine jcallP_kill 1 rfl rfl ?_
  simp
  refine jcallP_kill 2 rfl rfl ?_
  simp
  refine jcallP_kill 3 rfl rfl ?_
  simp
  refine jcallP_a (each_ok _ _ rfl (rename1 n a b) (renameC_ok n a b) x hb) (by simp) (by simp) ?_
  simp
end Go.Proofs.AL
namespace Go.Proofs.AL
open Go Go.RowKit Go.Proofs.Try
set_option maxRecDepth 100000
set_option linter.unusedSimpArgs false
@[simp] theorem Nd.rows_get (l : List Nd) (i : Nat) (h : i < (Nd.rows l).length) : (Nd.rows l)[i] = (l[i]'(by simpa using h)).cells := by simp [Nd.rows_map]
@[simp] theorem Nd.rows_set (l : List Nd) (i : Nat) (x : Nd) : (Nd.rows l).set i x.cells = Nd.rows (l.set i x) := by simp [Nd.rows_map, List.map_set]
/-! ### walking -/
theorem nodes_ok (x : Nd) : ACall cx 37 [.agg x.cells] (.fn (.func 48) [] [.cptr x.cells]) none := by
  refine ACall.wpc (C := cx) T.func_37 (by kernel_rfl) rfl (by rfl) ?_
  simp [f37]
def allVs (x : Nd) : List (List AV) := (x.all 0).map fun z => [.agg z.cells]
theorem Nd.all0_eq (x : Nd) : x.all 0 = x :: Nd.allL 0 x.kids := by rw [Nd.all_eq]; simp
theorem Nd.allL0_len (l : List Nd) : (Nd.allL 0 l).length = Nd.countL l := Nd.allL0 l
/-- A walk tells the nodes from the k-th on; from there on Jj (k + number of nodes). -/
def WalkEnds (k0 : Nat) (lp : Lps) (J : Nat → Mem) (Stop : Mem) (i : Nat) (r : AV) (s2 : AS) : Prop :=
  ∃ c' rest' lv' nx' lp', c'.length = k0 ∧ s2.ob = c' ++ rest' ∧ s2.live = look lv' ∧ s2.next = nx' ∧ s2.lp = lp' ∧ ((r = .bool true ∧ lp' = lp ∧ J i c' lv' nx' lp') ∨ (r = .bool false ∧ Stop c' lv' nx' lp'))
set_option maxHeartbeats 4000000 in
theorem walk_go (y k0 : Nat) (J : Nat → Mem) (Stop : Mem) (lp : Lps) (vs : List Nd)
    (hY : ∀ (i : Nat) (hi : i < vs.length) (c rest : Obs) (lv : Lvs) (nx N : Nat) (m : List (Nat × AV)), c.length = k0 → J i c lv nx lp → YCall cx y [.agg vs[i].cells] (S N m (c ++ rest) lv nx lp) (YEnds k0 rest lp (J (i + 1)) Stop))
    (x : Nd) : ∀ (i : Nat) (c rest : Obs) (lv : Lvs) (nx N : Nat) (m : List (Nat × AV)), x.all 0 <+: vs.drop i → c.length = k0 → J i c lv nx lp →
      JCall cx 49 [.agg x.cells, .fn (.yield y) [] []] (S N m (c ++ rest) lv nx lp) (WalkEnds k0 lp J Stop (i + x.count)) := by
  induction x using Nd.ind with | _ x ih
  intro i c rest lv nx N m hp hc hJ
  refine JCall.wpc (C := cx) T.func_49 (by kernel_rfl) rfl (by rfl) (fun hL => ?_)
  have hlen := Nd.lens (x := x) (t := 0) hL (by simp)
  clear hL
  obtain ⟨tl, htl⟩ := hp
  rw [Nd.all0_eq] at htl
  have hi : i < vs.length := by
    have := congrArg List.length htl
    simp at this; omega
  have hx : vs[i] = x := by
    rw [List.drop_eq_getElem_cons hi] at htl
    simp only [List.cons_append, List.cons.injEq] at htl
    exact htl.1.symm
  have htl2 : Nd.allL 0 x.kids ++ tl = vs.drop (i + 1) := by
    rw [List.drop_eq_getElem_cons hi] at htl
    simp only [List.cons_append, List.cons.injEq] at htl
    exact htl.2
  simp [f49]
  have hy := hY i hi c (rest ++ [x.cells]) lv nx
  rw [hx] at hy
  refine yieldP_i (hy _ _ hc hJ) ?_
  rintro b s2 ⟨c2, r2, lv2, nx2, lp2, hc2, e1, e2, e3, e4, hb⟩
  rw [S_ret e1 e2 e3 e4]
  rcases hb with ⟨rfl, rfl, hJ2⟩ | ⟨rfl, hS⟩
  rotate_left
  · simp
    exact ⟨c2, _, lv2, nx2, lp2, hc2, rfl, rfl, rfl, rfl, .inr ⟨rfl, hS⟩⟩
  have hcc : c.length = c2.length := by omega
  simp [hcc]
  refine loopK [1, 12, 13] (fun (p : Nat × Obs × Lvs) nx => p.1 ≤ x.kids.length ∧ p.2.1.length = k0 ∧ J (i + 1 + Nd.countL (x.kids.take p.1)) p.2.1 p.2.2 nx lp2) (fun p => [(14, .int .i64 (p.1 : Nat))]) (fun p => p.2.1) (fun p => p.2.2) (fun p => x.kids.length - p.1)
    (0, c2, lv2) ⟨by simp, hc2, by simpa [Nd.countL] using hJ2⟩ (by simp) (rest ++ x.cells :: r2) (by simp) (by simp) ?_
  rintro ⟨j, c1, lv1⟩ nx1 r1 ⟨hj, hc1, hJ1⟩ - -
  dsimp only at hj hc1 hJ1
  simp
  refine split2_i (fun h3 => ?_) (fun h3 => ?_) <;> simp [h3]
  · simp at h3
    simp [h3]
    have hpre : (x.kids[j]).all 0 <+: vs.drop (i + 1 + Nd.countL (x.kids.take j)) := by
      rw [← List.drop_drop, ← htl2]
      have : Nd.allL 0 x.kids = Nd.allL 0 (x.kids.take j) ++ ((x.kids[j]).all 0 ++ Nd.allL 0 (x.kids.drop (j + 1))) := by
        conv => lhs; rw [← List.take_append_drop j x.kids, Nd.allL_append, List.drop_eq_getElem_cons h3, Nd.allL]
      rw [this, List.append_assoc, List.drop_append_of_le_length (by rw [Nd.allL0]; omega), List.drop_of_length_le (by rw [Nd.allL0]; omega)]
      simp
    refine jcallP_i (ih _ (List.getElem_mem h3) _ c1 _ lv1 nx1 _ _ hpre hc1 hJ1) ?_
    rintro res s3 ⟨c3, r3, lv3, nx3, lp3, hc3, f1, f2, f3, f4, hb⟩
    rw [S_ret f1 f2 f3 f4]
    rcases hb with ⟨rfl, rfl, hJ3⟩ | ⟨rfl, hS⟩
    · simp
      refine againK_i (j + 1, c3, lv3) _ ⟨h3, hc3, ?_⟩ (by dsimp only; omega) (by simp [wrap64_i h3 hlen]) rfl (by simp)
      rw [Nd.countL_take h3]
      simpa [Nat.add_assoc] using hJ3
    · simp
      exact ⟨c3, _, lv3, nx3, lp3, hc3, rfl, rfl, rfl, rfl, .inr ⟨rfl, hS⟩⟩
  · simp at h3
    have : j = x.kids.length := by omega
    subst this
    refine ⟨c1, _, lv1, nx1, _, hc1, rfl, rfl, rfl, rfl, .inl ⟨rfl, rfl, ?_⟩⟩
    rw [Nd.count_eq]
    simpa [Nat.add_assoc, Nat.add_comm 1] using hJ1
theorem nodes_seq (x : Nd) : IsSeq cx 48 [.cptr x.cells] (allVs x) := by
  refine ⟨⟨f48, _, T.func_48, by kernel_rfl, rfl⟩, fun y k0 J Stop lp hY c lv nx N m hc hJ => ?_⟩
  refine JCall.wpc (C := cx) T.func_48 (by kernel_rfl) rfl (by rfl) (fun hL => ?_)
  clear hL
  simp [f48]
  have hw := walk_go y k0 J Stop lp (x.all 0) (fun i hi c rest lv nx N m h1 h2 => by
    have := hY i (by simpa [allVs] using hi) c rest lv nx N m h1 h2
    simpa [allVs] using this) x 0 c [] lv nx
  rw [List.append_nil] at hw
  refine jcallP_i (hw _ _ (by simp) hc hJ) ?_
  rintro res s2 ⟨c2, r2, lv2, nx2, lp2, hc2, e1, e2, e3, e4, hb⟩
  rw [S_ret e1 e2 e3 e4]
  simp
  refine ⟨c2, r2, lv2, nx2, lp2, hc2, rfl, rfl, rfl, rfl, ?_⟩
  rcases hb with ⟨_, rfl, hJ2⟩ | ⟨_, hS⟩
  · refine .inl ⟨rfl, ?_⟩
    have : (allVs x).length = 0 + x.count := by simp [allVs, Nd.all0]
    rw [this]; exact hJ2
  · exact .inr hS
@[simp] theorem allVs_length (x : Nd) : (allVs x).length = x.count := by simp [allVs, Nd.all0]
theorem allVs_all (x : Nd) : ∀ v ∈ allVs x, 1 = v.length := by
  intro v hv
  obtain ⟨z, _, rfl⟩ := List.mem_map.1 hv
  rfl
theorem allVs_get (x : Nd) (i : Nat) (h : i < (allVs x).length) : (allVs x)[i] = [.agg ((x.all 0)[i]'(by simpa [allVs] using h)).cells] := by simp [allVs]
theorem ncount_ok (x : Nd) (hb : x.count ≤ 10000000) : ACall cx 13 [.agg x.cells] (.int .i64 (x.count : Nat)) none := by
  refine ACall.wpc (C := cx) T.func_13 (by kernel_rfl) rfl (by rfl) ?_
  simp [f13]
  refine callP_i (nodes_ok _) ?_
  simp
  refine range_seq (allVs x) (fun i c lv nx => c = [x.cells, [.int .i64 (i : Nat)]] ∧ lv = []) (by simp) (by simp) (nodes_seq _) (allVs_all _) (by simp) ⟨by simp, rfl⟩ ?_ ?_
  · rintro l lp1 lp2 i hi c rest lv nx - ⟨rfl, rfl⟩ -
    rw [allVs_length] at hi
    have w : IntKind.i64.wrap ((i : Int) + 1) = ((i + 1 : Nat) : Int) := by rw [wrap64_in (by omega) (by omega)]; omega
    rw [allVs_get]
    simp
    exact rNext_i [x.cells, [.int .i64 ((i + 1 : Nat) : Int)]] [] [] rfl (by rw [← w]; simp) rfl ⟨rfl, rfl⟩
  · rintro c rest lv nx - ⟨rfl, rfl⟩
    simp
theorem Nd.all_filter (kind : Int) : ∀ x : Nd, x.all kind = (x.all 0).filter (fun z => decide (kind = 0 ∨ z.kind = kind)) := by
  have hL : ∀ (l : List Nd), (∀ x ∈ l, x.all kind = (x.all 0).filter (fun z => decide (kind = 0 ∨ z.kind = kind))) → Nd.allL kind l = (Nd.allL 0 l).filter (fun z => decide (kind = 0 ∨ z.kind = kind)) := by
    intro l
    induction l with
    | nil => intro _; simp [Nd.allL]
    | cons y l ih => intro h; rw [Nd.allL, Nd.allL, List.filter_append, h y (by simp), ih (fun x hx => h x (by simp [hx]))]
  intro x
  induction x using Nd.ind with | _ x ih
  rw [Nd.all_eq, Nd.all0_eq, hL _ ih, List.filter_cons]
  split <;> simp_all
def allP (x : Nd) (kind : Int) (i : Nat) : List Nd := ((x.all 0).take i).filter (fun z => decide (kind = 0 ∨ z.kind = kind))
theorem allP_len (x : Nd) (kind : Int) (i : Nat) : (allP x kind i).length ≤ x.count := by
  have h1 : (allP x kind i).length ≤ ((x.all 0).take i).length := List.length_filter_le _ _
  have h2 := Nd.all0 x
  simp at h1
  omega
theorem allP_succ (x : Nd) (kind : Int) (i : Nat) (h : i < (x.all 0).length) : allP x kind (i + 1) = allP x kind i ++ (if kind = 0 ∨ ((x.all 0)[i]).kind = kind then [(x.all 0)[i]] else []) := by
  unfold allP
  rw [List.take_succ_eq_append_getElem h, List.filter_append, List.filter_cons]
  simp
def allJ (x : Nd) (kind : Int) (i : Nat) (c : Obs) (lv : Lvs) (nx : Nat) : Prop := 3 ≤ nx ∧ ((allP x kind i = [] ∧ c = [x.cells, [.int .i64 kind], [.sl 1 []]] ∧ lv = [(0, .ty 24)]) ∨ (∃ k, k ≠ 0 ∧ k < nx ∧ c = [x.cells, [.int .i64 kind], [.own k (allP x kind i).length]] ∧ lv = [(k, .row 24 (Nd.rows (allP x kind i))), (0, .ty 24)]))
set_option maxHeartbeats 4000000 in
theorem nall_ok (x : Nd) (kind : Int) (hb : x.count ≤ 10000000) : ACall cx 18 [.agg x.cells, .int .i64 kind] (.sl 0 (Nd.rows (x.all kind))) none := by
  refine ACall.wpr (C := cx) 24 T.func_18 (by kernel_rfl) rfl (by rfl) (fun hL => ?_)
  clear hL
  simp [f18]
  refine callP_i (nodes_ok _) ?_
  simp
  refine range_seq (allVs x) (allJ x kind) (by simp) (by simp) (nodes_seq _) (allVs_all _) (by simp) ⟨Nat.le_refl 3, .inl ⟨by simp [allP], rfl, rfl⟩⟩ ?_ ?_
  · rintro l lp1 lp2 i hi c rest lv nx - ⟨hnx, hJ⟩ -
    rw [allVs_length] at hi
    have hi' : i < (x.all 0).length := by rw [Nd.all0]; exact hi
    have hs := allP_succ x kind i hi'
    have hle := allP_len x kind i
    have hnx0 : ¬ nx = 0 := by omega
    have hnx0' : ¬ 0 = nx := by omega
    rw [allVs_get]
    by_cases hc : kind = 0 ∨ ((x.all 0)[i]).kind = kind
    · rw [if_pos hc] at hs
      have hb1 : ((kind == 0) = true) ∨ ((kind == 0) = false ∧ (((x.all 0)[i]).kind == kind) = true) := by
        by_cases e1 : kind = 0
        · exact .inl (by simp [e1])
        · exact .inr ⟨by simp [e1], by simp [hc.resolve_left e1]⟩
      rcases hJ with ⟨h0, rfl, rfl⟩ | ⟨k, hk, hkn, rfl, rfl⟩
      · have h1 : allP x kind (i + 1) = [(x.all 0)[i]] := by rw [hs, h0]; rfl
        rcases hb1 with e1 | ⟨e1, e2⟩
        all_goals
          first | simp [e1, e2, hnx0, hnx0'] | simp [e1, hnx0, hnx0']
          refine ⟨by kernel_rfl, ?_⟩
          refine rNext_i [x.cells, [.int .i64 kind], [.own nx 1]] [_] _ rfl rfl rfl ?_
          exact ⟨by omega, Or.inr ⟨nx, by clear hs; omega, by omega, by rw [h1]; rfl, by rw [h1]; rfl⟩⟩
      · have hk0 : ¬ 0 = k := by omega
        have hle2 := allP_len x kind (i + 1)
        rw [hs] at hle2
        simp only [List.length_append, List.length_singleton] at hle2
        rcases hb1 with e1 | ⟨e1, e2⟩
        all_goals
          first | simp [e1, e2, hnx0, hnx0', hk, hk0] | simp [e1, hnx0, hnx0', hk, hk0]
          refine ⟨b104 (by omega), by omega, by kernel_rfl, ?_⟩
          refine rNext_i [x.cells, [.int .i64 kind], [.own nx ((allP x kind i).length + 1)]] [_] _ rfl rfl rfl ?_
          exact ⟨by omega, Or.inr ⟨nx, by omega, by omega, by rw [hs]; simp, by rw [hs]⟩⟩
    · rw [if_neg hc, List.append_nil] at hs
      simp at hc
      have n1 : (kind == 0) = false := by simp [hc.1]
      have n2 : (((x.all 0)[i]).kind == kind) = false := by simp [hc.2]
      rcases hJ with ⟨h0, rfl, rfl⟩ | ⟨k, hk, hkn, rfl, rfl⟩
      · simp [n1, n2]
        refine rNext_i [x.cells, [.int .i64 kind], [.sl 1 []]] [_] _ rfl rfl rfl ?_
        exact ⟨hnx, Or.inl ⟨by rw [hs, h0], rfl, rfl⟩⟩
      · simp [n1, n2]
        refine rNext_i [x.cells, [.int .i64 kind], [.own k (allP x kind i).length]] [_] _ rfl rfl rfl ?_
        exact ⟨hnx, Or.inr ⟨k, hk, hkn, by rw [hs], by rw [hs]⟩⟩
  · rintro c rest lv nx - ⟨-, hJ⟩
    have hend : allP x kind (allVs x).length = x.all kind := by
      rw [Nd.all_filter, allP, List.take_of_length_le (by simp [Nd.all0])]
    rcases hJ with ⟨h0, rfl, rfl⟩ | ⟨k, hk, hkn, rfl, rfl⟩
    · simp
      rw [← hend, h0]
    · rw [hend]
      simp
end Go.Proofs.AL
