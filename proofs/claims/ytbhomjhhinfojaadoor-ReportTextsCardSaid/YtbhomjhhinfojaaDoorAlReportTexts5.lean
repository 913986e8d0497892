/- What the functions that the law ReportTexts reaches compute, and the law (part 5). -/
import Derived.Test.YtbhomjhhinfojaaDoorAlReportTexts4
namespace Go.Proofs.AL
open Go Go.RowKit
set_option linter.unusedSimpArgs false
set_option linter.unusedVariables false
/-! ### a literal row that will be written to -/
section
variable {C : Cx} {E : Env} {G : Gh} {s : AS} {a : Act} {w : World}
theorem rowO_ok (h : Rel C E G s a w) {d : Option Nat} (hd : ∀ t, d = some t → t < s.N) {t : TypeId} {n : Nat} {ps : Array (Nat × Operand)} {qs : List (Nat × AV)} (hq : evalP s ps.toList = some qs) {e0 : TypeId} {xs0 : List (List AV)} (he : rowE C.P t n qs = some (.row e0 xs0)) :
    ∃ r w', (Instr.buildSlice t n (ps.map fun (i, x) => (i, a.eval x))).run C.P w = .ok r w' ∧ ∃ G', Rel C E G' (apEff s d (.appr 1 e0 xs0)) (a.put d r) w' := by
  unfold rowE at he
  obtain ⟨e, he1, he⟩ := Option.bind_eq_some_iff.1 he
  obtain ⟨⟨sz, by_⟩, he2, he⟩ := Option.bind_eq_some_iff.1 he
  dsimp only at he
  split at he
  case isFalse => cases he
  rename_i hcond
  obtain ⟨h0, hle, hidx, hall⟩ := hcond
  cases he
  obtain ⟨i, z, hi, hz, hzs, hsz, hby, hszT⟩ := infoT_ok he2
  obtain ⟨hq1, hq2⟩ := evalP_ok h hq
  have hn : qs.length = n := by have := congrArg List.length hidx; simpa using this
  have hpl : ps.size = n := by rw [← hn, hq1]; simp
  -- the parts
  have hparts : ∀ (j : Nat) (p : Nat × Value), (ps.map fun (i, x) => (i, a.eval x)).toList[j]? = some p → ∃ q, qs[j]? = some q ∧ p.1 = j ∧ V G w q.2 p.2 := by
    intro j p hp
    simp only [Array.toList_map, List.getElem?_map] at hp
    obtain ⟨⟨i', y⟩, g1, g2⟩ := Option.map_eq_some_iff.1 hp
    cases g2
    have hjl : j < qs.length := by have := (List.getElem?_eq_some_iff.1 g1).1; simp at this; omega
    obtain ⟨⟨qi, qx⟩, hqj⟩ : ∃ q, qs[j]? = some q := ⟨_, List.getElem?_eq_getElem hjl⟩
    obtain ⟨k1, k2⟩ := hq2 j qi i' qx y hqj g1
    have h3 : (qs.map (·.1))[j]? = some j := by rw [hidx, List.getElem?_range (by omega)]
    rw [List.getElem?_map, hqj] at h3
    have h4 : qi = j := by simpa using h3
    exact ⟨(qi, qx), hqj, by show i' = j; omega, k2⟩
  have hcells : ∀ (j : Nat) (p : Nat × Value), (ps.map fun (i, x) => (i, a.eval x)).toList[j]? = some p → p.1 = 0 + j ∧ p.2.cells.size = sz := by
    intro j p hp
    obtain ⟨q, e1, e2, e3⟩ := hparts j p hp
    obtain ⟨f1, f2⟩ := hall q (List.mem_of_getElem? e1)
    have := (e3.cells (by intro vs e; rw [e] at f1; cases f1)).1
    exact ⟨by omega, by rw [f2] at this; simpa using this.symm⟩
  have hfill : ∀ zc : Array Value, ∃ arr, Instr.fill (fun i => some (i * sz, sz)) ((Array.range (n * sz)).map (zc[· % zc.size]!)) (ps.map fun (i, x) => (i, a.eval x)).toList = some arr ∧
      arr.toList = ((ps.map fun (i, x) => (i, a.eval x)).toList.map fun p => p.2.cells.toList).flatten := by
    intro zc
    obtain ⟨arr, ha1, ha2⟩ := fill_all (size := sz) (ps.map fun (i, x) => (i, a.eval x)).toList 0 ((Array.range (n * sz)).map (zc[· % zc.size]!)) hcells (by simp [hpl])
    exact ⟨arr, ha1, by rw [ha2]; simp⟩
  obtain ⟨arr, harr, hrun⟩ : ∃ arr : Array Value, arr.toList = ((ps.map fun (i, x) => (i, a.eval x)).toList.map fun p => p.2.cells.toList).flatten ∧
      (Instr.buildSlice t n (ps.map fun (i, x) => (i, a.eval x))).run C.P w = .ok (.slice (some ⟨w.heap.size, 0, none⟩) n n) (w.alloc (.cells arr e0)) := by
    by_cases hnz : n * sz = 0
    · obtain ⟨arr, ha1, ha2⟩ := hfill #[]
      refine ⟨arr, ha2, ?_⟩
      unfold Instr.buildSlice
      simp only [Sem.run_bind, run_underlyingT (elT_ok he1), Result.andThen, run_szOf hszT]
      rw [if_neg (by omega), if_pos hnz]
      simp only [Sem.run_bind, Sem.run_pure, Result.andThen]
      rw [ha1]
      rfl
    · obtain ⟨arr, ha1, ha2⟩ := hfill z.cells
      refine ⟨arr, ha2, ?_⟩
      have hzr : (zeroValue e0).run C.P w = .ok z w := run_zeroT (by rw [hi]; exact hz)
      unfold Instr.buildSlice
      simp only [Sem.run_bind, run_underlyingT (elT_ok he1), Result.andThen, run_szOf hszT]
      rw [if_neg (by omega), if_neg hnz]
      simp only [Sem.run_bind, Sem.run_pure, Result.andThen, hzr]
      rw [ha1]
      rfl
  refine ⟨_, _, hrun, ?_⟩
  have hus : ∀ vs ∈ ((ps.map fun (i, x) => (i, a.eval x)).toList.map fun p => p.2.cells.toList), vs.length = sz := by
    intro vs hvs
    obtain ⟨p, hp, rfl⟩ := List.mem_map.1 hvs
    obtain ⟨j, hj⟩ := List.mem_iff_getElem?.1 hp
    simpa using (hcells j p hj).2
  have hn0 : n ≤ 16777216 := Nat.le_trans (Nat.le_mul_of_pos_right n h0) hle
  obtain ⟨G', g1, g2, mo⟩ := (h.dropTok 1).newRowK (w' := w.alloc (.cells arr e0)) (e := e0) (sz := sz) (c := n) (xs := qs.map fun p => p.2.cells.map er1) (cur := arr) hszT h0
    (fun el hel => by obtain ⟨p, hp, rfl⟩ := List.mem_map.1 hel; simpa using (hall p hp).2) (fun j i el x u q1 q2 q3 => by
      rw [List.getElem?_map] at q1
      obtain ⟨q, e1, rfl⟩ := Option.map_eq_some_iff.1 q1
      have hjl : j < qs.length := (List.getElem?_eq_some_iff.1 e1).1
      obtain ⟨p, hp⟩ : ∃ p, (ps.map fun (i, x) => (i, a.eval x)).toList[j]? = some p := ⟨_, List.getElem?_eq_getElem (by simp only [Array.toList_map, List.length_map, Array.length_toList]; omega)⟩
      obtain ⟨q', e3, e4, e5⟩ := hparts j p hp
      rw [e1] at e3; cases e3
      have f1 := (hall q (List.mem_of_getElem? e1)).1
      have f2 := (hall q (List.mem_of_getElem? e1)).2
      have hVL := (e5.cells (by intro vs e; rw [e] at f1; cases f1)).er
      have hi : i < sz := by
        have := (List.getElem?_eq_some_iff.1 q2).1
        rw [List.length_map, f2] at this
        exact this
      have hu : ((ps.map fun (i, x) => (i, a.eval x)).toList.map fun p => p.2.cells.toList)[j]? = some p.2.cells.toList := by rw [List.getElem?_map, hp]; rfl
      have hf := flat_get _ j i _ hus hu hi
      rw [← harr, Array.getElem?_toList, q3] at hf
      exact hVL.2 i x u q2 hf.symm) (by simp [hn]) (by unfold maxLen; omega)
    (by rw [← Array.length_toList, harr, flat_length _ hus]; simp [hpl])
    ((Below.refl _ _).alloc (Nat.le_refl _) _) (heap_alloc_new w _) (Array.size_push _)
  have hlen : (qs.map fun p => p.2.cells.map er1).length = n := by simp [hn]
  refine ⟨G', g1.put (d := d) hd ?_⟩
  rw [hlen] at g2 ⊢
  exact .own (.inr ⟨_, rfl⟩) g2
/-- A region that begins with a literal row, which is one's own then. -/
theorem ACode.litOwn {r : Option Nat} {id d n : Nat} {t ty : TypeId} {ps : Array (Nat × Operand)} {pos : String} {af : Array Edge} {o2 : Oper} {Q : Exit → AS → Prop} {qs : List (Nat × AV)} {e0 : TypeId} {xs0 : List (List AV)} (hq : evalP s ps.toList = some qs) (he : rowE C.P t n qs = some (.row e0 xs0)) (hd : d < s.N)
    (h : wpOps .seq .on C #[{ dst := some d, op := .buildSlice t n ps, type := ty, pos := pos, after := af, guard := none }, o2] [o2] [] (apEff s (some d) (.appr 1 e0 xs0)) (fun _ _ s' => Q .normal s')) :
    ACode C r (.region id #[{ dst := some d, op := .buildSlice t n ps, type := ty, pos := pos, after := af, guard := none }, o2] false) s Q := fun E G a w hR => by
  refine wpIn_region ?_
  show wpOpsIn (Fr r) 0 C.P _ _ [0, 1] a w
  rw [wpOpsIn_cons]
  unfold wpOpIn
  obtain ⟨v, w', hrun, G', hrel⟩ := rowO_ok hR (d := some d) (fun t ht => by cases ht; exact hd) hq he
  have hi : (#[{ dst := some d, op := .buildSlice t n ps, type := ty, pos := pos, after := af, guard := none }, o2] : Array Oper)[0]? = some { dst := some d, op := .buildSlice t n ps, type := ty, pos := pos, after := af, guard := none } := rfl
  have hw : Region.wanted { dst := some d, op := .buildSlice t n ps, type := ty, pos := pos, after := af, guard := none } (yielded #[{ dst := some d, op := .buildSlice t n ps, type := ty, pos := pos, after := af, guard := none }, o2] a.tmps) = true := rfl
  rw [hi]
  dsimp only
  rw [if_pos hw]
  refine ⟨fun _ _ => trivial, ?_⟩
  rw [Oper.semAt_eq _ _ _ (by rintro c e; cases e)]
  have hex : (execOp a.eval { dst := some d, op := .buildSlice t n ps, type := ty, pos := pos, after := af, guard := none }).run C.P w = .ok (.value v) w' := by
    simp only [execOp, Sem.run_bind, hrun, Result.andThen, Sem.run_pure]
  rw [hex]
  exact wpOpsJ_ok (C := C) (E := E) (r := r) (Q := fun e a' w' => ∃ s' G', Q e s' ∧ Rel C E G' s' a' w') (K := fun _ _ s' => Q .normal s') (fun cl s' G' a' w' hk hr => ⟨s', G', hk, hr⟩) (L := [o2]) (k := 1) (fun j => by
    cases j with
    | zero => rfl
    | succ j =>
      rw [show 1 + (j + 1) = j + 2 by omega]
      simp) hrel h
end
end Go.Proofs.AL
namespace Go.Proofs.AL
open Go Go.RowKit Go.Proofs.Tryd
set_option maxRecDepth 100000
set_option linter.unusedSimpArgs false
set_option linter.unusedVariables false
set_option maxHeartbeats 2000000 in
theorem rshow_ok (k : Int) (a b : ByteArray) (ha : a.size ≤ 2000000) (hb : b.size ≤ 2000000) : ACall cx 28 [.agg [.int .i64 k, .str a, .str b]] (.str (showS k a b)) none := by
  refine ACall.wpc (C := cx) T.func_28 (by kernel_rfl) rfl (by rfl) ?_
  have r4 : List.range 4 = [0, 1, 2, 3] := rfl
  have z1 : (ByteArray.mk #[114, 101, 110, 97, 109, 101, 32]).size = 7 := rfl
  have z3 : (ByteArray.mk #[32, 116, 111, 32]).size = 4 := rfl
  have z4 : (ByteArray.mk #[109, 111, 118, 101, 45, 109, 101, 109, 98, 101, 114, 32]).size = 12 := rfl
  have z5 : (ByteArray.mk #[109, 111, 118, 101, 45, 99, 108, 97, 115, 115, 32]).size = 11 := rfl
  simp [f28, r4]
  by_cases h1 : k < 1
  · have n1 : ¬ (k = 1 ∨ k = 2 ∨ k = 3) := by omega
    simp [h1, showS, n1]
    rfl
  · by_cases h2 : 3 < k
    · have n1 : ¬ (k = 1 ∨ k = 2 ∨ k = 3) := by omega
      simp [h1, h2, showS, n1]
      rfl
    · have h3 : k = 1 ∨ k = 2 ∨ k = 3 := by omega
      rcases h3 with rfl | rfl | rfl
      · simp
        simp only [z1, z3, z4, z5]
        refine ⟨by omega, by omega, by omega, by kernel_rfl, ?_⟩
        simp [showS, wordsL]
        rfl
      · simp
        simp only [z1, z3, z4, z5]
        refine ⟨by omega, by omega, by omega, by kernel_rfl, ?_⟩
        simp [showS, wordsL]
        rfl
      · simp
        simp only [z1, z3, z4, z5]
        refine ⟨by omega, by omega, by omega, by kernel_rfl, ?_⟩
        simp [showS, wordsL]
        rfl
end Go.Proofs.AL
namespace Go.Proofs.AL
open Go Go.RowKit Go.Proofs.Tryd
set_option maxRecDepth 100000
set_option linter.unusedSimpArgs false
set_option linter.unusedVariables false
theorem ACode.seqA {C : Cx} {r : Option Nat} {x y : Code} {s : AS} {Q : Exit → AS → Prop} (h : ACode C r x s (fun e s' => e = .normal ∧ ACode C r y s' Q)) : ACode C r (.seq x y) s Q :=
  .seq (h.mono (fun e s' ⟨he, h'⟩ => by subst he; exact h'))
set_option maxHeartbeats 8000000 in
theorem rcount_ok (l : List Cf) (hl : l.length ≤ 1000000) : ACall cx 18 [.sl 0 (cfs l)] (.sl 0 (ints (countS l))) none := by
  refine ACall.wp (C := cx) T.func_18 (by kernel_rfl) rfl (by rfl) ?_
  refine ACode.seqW ?_
  simp [f18]
  refine ACode.seqA (ACode.litOwn (qs := [(0, .int .i64 0), (1, .int .i64 0), (2, .int .i64 0), (3, .int .i64 0), (4, .int .i64 0)]) (e0 := 3) (xs0 := ints [0, 0, 0, 0, 0]) rfl (by kernel_rfl) (show 5 < 38 by decide) ?_)
  simp
  refine ACode.seqW ?_
  simp
  refine loopK [0, 3] (fun i _ => i ≤ l.length) (fun i => [(4, .int .i64 (i : Nat))]) (fun _ => []) (fun i => [(3, .row 3 (ints (countS (l.take i))))]) (fun i => l.length - i) 0 (by simp) (by simp) [] (by simp) (by simp [countS, cntK_nil, lvOk]) ?_
  rintro i nx g hi - -
  simp
  by_cases h4 : i < l.length
  · have w : IntKind.i64.wrap ((i : Int) + 1) = ((i + 1 : Nat) : Int) := by rw [wrap64_in (by omega) (by omega)]; omega
    have hs := cntK_succ l i h4
    have hle := cntK_le l i
    obtain ⟨⟨x, y⟩, hx⟩ : ∃ x, x = l[i] := ⟨_, rfl⟩
    rw [← hx] at hs
    dsimp only at hs
    have e : (x < 1 ∨ 5 < x) → countS (l.take (i + 1)) = countS (l.take i) := fun h => by
      have e : ∀ j : Int, 1 ≤ j → j ≤ 5 → cntK (l.take (i + 1)) j = cntK (l.take i) j := fun j h1 h2 => by rw [hs, if_neg (by omega)]
      simp [countS, e]
    by_cases c1 : 1 ≤ x
    · by_cases c2 : x ≤ 5
      · obtain ⟨n, rfl⟩ := Int.eq_ofNat_of_zero_le (show 0 ≤ x by omega)
        have hn : n = 1 ∨ n = 2 ∨ n = 3 ∨ n = 4 ∨ n = 5 := by omega
        have wj : ∀ j, IntKind.i64.wrap (cntK (l.take i) j + 1) = cntK (l.take i) j + 1 := fun j => by have := hle j; rw [wrap64_in (by omega) (by omega)]
        have wv : IntKind.i64.wrap 0 = 0 ∧ IntKind.i64.wrap 1 = 1 ∧ IntKind.i64.wrap 2 = 2 ∧ IntKind.i64.wrap 3 = 3 ∧ IntKind.i64.wrap 4 = 4 := by decide
        rcases hn with rfl | rfl | rfl | rfl | rfl
        · simp [h4, cfV, ← hx, countS, wj, wv]
          refine againK_i (i + 1) g h4 (by omega) (by simp [w]) (by simp) ?_
          simp [countS, hs, ints]
        · simp [h4, cfV, ← hx, countS, wj, wv]
          refine againK_i (i + 1) g h4 (by omega) (by simp [w]) (by simp) ?_
          simp [countS, hs, ints]
        · simp [h4, cfV, ← hx, countS, wj, wv]
          refine againK_i (i + 1) g h4 (by omega) (by simp [w]) (by simp) ?_
          simp [countS, hs, ints]
        · simp [h4, cfV, ← hx, countS, wj, wv]
          refine againK_i (i + 1) g h4 (by omega) (by simp [w]) (by simp) ?_
          simp [countS, hs, ints]
        · simp [h4, cfV, ← hx, countS, wj, wv]
          refine againK_i (i + 1) g h4 (by omega) (by simp [w]) (by simp) ?_
          simp [countS, hs, ints]
      · have e := e (.inr (by omega))
        simp [h4, cfV, ← hx, c1, c2]
        exact againK_i (i + 1) g h4 (by omega) (by simp [w]) (by simp) (by simp [e])
    · have e := e (.inl (by omega))
      simp [h4, cfV, ← hx, c1]
      exact againK_i (i + 1) g h4 (by omega) (by simp [w]) (by simp) (by simp [e])
  · have : i = l.length := by omega
    subst this
    rw [List.take_length]
    simp
    refine ACode.at ?_
    simp
    have h5 : (countS l).length = 5 := rfl
    rw [if_pos h5]
    simp [ints, er1]
set_option maxHeartbeats 8000000 in
theorem rtext_ok (k : Int) (a b : List Rq) (c : List Cf) (ha : rqZ a) (hb : rqZ b) (hc : cfZ c) : ACall cx 15 [.int .i64 k, .sl 0 (rqs a), .sl 0 (rqs b), .sl 0 (cfs c)] (.str (textS k a b c)) none := by
  refine ACall.wpc (C := cx) T.func_15 (by kernel_rfl) rfl (by rfl) ?_
  have hal := ha.1
  have hbl := hb.1
  have hcl := hc.1
  have hw := wouts_size k
  have z10 : (ByteArray.mk #[10]).size = 1 := rfl
  have hh : (headS k).size ≤ 100 := by unfold headS; rw [ByteArray.size_append]; show _ + 1 ≤ 100; omega
  simp [f15]
  refine callP_i (routcome_ok k) ?_
  simp
  refine ⟨by rw [z10]; omega, ?_⟩
  rw [show wordS outsL k ++ ⟨#[10]⟩ = headS k from rfl]
  refine loopK [1, 2, 3] (fun (i : Nat) _ => i ≤ a.length) (fun i => [(10, .int .i64 (i : Nat)), (9, .str (headS k ++ cat ((a.map (rqL leftW)).take i)))]) (fun _ => []) (fun _ => []) (fun i => a.length - i) 0 (by simp) (by simp [cat]) [] rfl (by simp) ?_
  rintro i nx g hi - -
  simp
  by_cases h4 : i < a.length
  · have w : IntKind.i64.wrap ((i : Int) + 1) = ((i + 1 : Nat) : Int) := by rw [wrap64_in (by omega) (by omega)]; omega
    have hp := part_size leftW (by decide) a ha i
    have hts := take_map_succ (rqL leftW) h4
    have hz := ha.2 a[i] (List.getElem_mem h4)
    obtain ⟨⟨x, y, z⟩, hx⟩ : ∃ x, x = a[i] := ⟨_, rfl⟩
    rw [← hx] at hts hz
    have hss := showS_size x y z
    have zl : (ByteArray.mk #[108, 101, 102, 116, 58, 32]).size = 6 := rfl
    dsimp only at hz
    have he : headS k ++ cat ((a.map (rqL leftW)).take i) ++ ⟨#[108, 101, 102, 116, 58, 32]⟩ ++ showS x y z ++ ⟨#[10]⟩ = headS k ++ cat ((a.map (rqL leftW)).take (i + 1)) := by
      rw [hts, show rqL leftW (x, y, z) = ⟨#[108, 101, 102, 116, 58, 32]⟩ ++ showS x y z ++ ⟨#[10]⟩ from rfl]
      simp only [ByteArray.append_assoc]
    simp [h4, rqV, ← hx]
    refine ⟨by rw [zl]; omega, ?_⟩
    refine callP_i (rshow_ok x y z hz.1 hz.2) ?_
    simp
    refine ⟨by rw [zl]; omega, by rw [zl, z10]; omega, ?_⟩
    rw [he]
    exact againK_i (i + 1) g h4 (by omega) (by simp [w]) rfl (by simp)
  have : i = a.length := by omega
  subst this
  rw [take_all]
  have hfa := part_size leftW (by decide) a ha a.length
  rw [take_all] at hfa
  simp
  refine loopK [2, 3] (fun (i : Nat) _ => i ≤ b.length) (fun i => [(11, .int .i64 (i : Nat)), (9, .str (headS k ++ cat (a.map (rqL leftW)) ++ cat ((b.map (rqL rightW)).take i)))]) (fun _ => []) (fun _ => []) (fun i => b.length - i) 0 (by simp) (by simp [cat]) g (by simp) (by simp) ?_
  rintro i nx2 g2 hi - -
  simp
  by_cases h4 : i < b.length
  · have w : IntKind.i64.wrap ((i : Int) + 1) = ((i + 1 : Nat) : Int) := by rw [wrap64_in (by omega) (by omega)]; omega
    have hp := part_size rightW (by decide) b hb i
    have hts := take_map_succ (rqL rightW) h4
    have hz := hb.2 b[i] (List.getElem_mem h4)
    obtain ⟨⟨x, y, z⟩, hx⟩ : ∃ x, x = b[i] := ⟨_, rfl⟩
    rw [← hx] at hts hz
    have hss := showS_size x y z
    have zl : (ByteArray.mk #[114, 105, 103, 104, 116, 58, 32]).size = 7 := rfl
    dsimp only at hz
    have he : headS k ++ cat (a.map (rqL leftW)) ++ cat ((b.map (rqL rightW)).take i) ++ ⟨#[114, 105, 103, 104, 116, 58, 32]⟩ ++ showS x y z ++ ⟨#[10]⟩ = headS k ++ cat (a.map (rqL leftW)) ++ cat ((b.map (rqL rightW)).take (i + 1)) := by
      rw [hts, show rqL rightW (x, y, z) = ⟨#[114, 105, 103, 104, 116, 58, 32]⟩ ++ showS x y z ++ ⟨#[10]⟩ from rfl]
      simp only [ByteArray.append_assoc]
    simp [h4, rqV, ← hx]
    refine ⟨by rw [zl]; omega, ?_⟩
    refine callP_i (rshow_ok x y z hz.1 hz.2) ?_
    simp
    refine ⟨by rw [zl]; omega, by rw [zl, z10]; omega, ?_⟩
    rw [he]
    exact againK_i (i + 1) g2 h4 (by omega) (by simp [w]) (by simp) (by simp)
  have : i = b.length := by omega
  subst this
  rw [take_all]
  have hfb := part_size rightW (by decide) b hb b.length
  rw [take_all] at hfb
  simp
  refine loopK [3] (fun (i : Nat) _ => i ≤ c.length) (fun i => [(12, .int .i64 (i : Nat)), (9, .str (headS k ++ cat (a.map (rqL leftW)) ++ cat (b.map (rqL rightW)) ++ cat ((c.map cfL).take i)))]) (fun _ => []) (fun _ => []) (fun i => c.length - i) 0 (by simp) (by simp [cat]) g2 (by simp) (by simp) ?_
  rintro i nx3 g3 hi - -
  simp
  by_cases h4 : i < c.length
  · have w : IntKind.i64.wrap ((i : Int) + 1) = ((i + 1 : Nat) : Int) := by rw [wrap64_in (by omega) (by omega)]; omega
    have hp := partc_size c hc i
    have hts := take_map_succ cfL h4
    have hz := hc.2 c[i] (List.getElem_mem h4)
    obtain ⟨⟨x, y⟩, hx⟩ : ∃ x, x = c[i] := ⟨_, rfl⟩
    rw [← hx] at hts hz
    have hss := confS_size x y
    have zl : (ByteArray.mk #[99, 111, 110, 102, 108, 105, 99, 116, 58, 32]).size = 10 := rfl
    dsimp only at hz
    have he : headS k ++ cat (a.map (rqL leftW)) ++ cat (b.map (rqL rightW)) ++ cat ((c.map cfL).take i) ++ ⟨#[99, 111, 110, 102, 108, 105, 99, 116, 58, 32]⟩ ++ confS x y ++ ⟨#[10]⟩ = headS k ++ cat (a.map (rqL leftW)) ++ cat (b.map (rqL rightW)) ++ cat ((c.map cfL).take (i + 1)) := by
      rw [hts, show cfL (x, y) = ⟨#[99, 111, 110, 102, 108, 105, 99, 116, 58, 32]⟩ ++ confS x y ++ ⟨#[10]⟩ from rfl]
      simp only [ByteArray.append_assoc]
    simp [h4, cfV, ← hx]
    refine ⟨by rw [zl]; omega, ?_⟩
    refine callP_i (rconflict_ok x y hz) ?_
    simp
    refine ⟨by rw [zl]; omega, by rw [zl, z10]; omega, ?_⟩
    rw [he]
    exact againK_i (i + 1) g3 h4 (by omega) (by simp [w]) (by simp) (by simp)
  have : i = c.length := by omega
  subst this
  rw [take_all]
  simp
  rfl
/-! ### the law -/
def sumZ {α : Type} (f : α → Nat) (l : List α) : Nat := (l.map f).sum
theorem sumZ_succ {α : Type} (f : α → Nat) {l : List α} {i : Nat} (h : i < l.length) : sumZ f (l.take (i + 1)) = sumZ f (l.take i) + f l[i] := by
  unfold sumZ
  rw [List.take_succ_eq_append_getElem h, List.map_append, List.sum_append]
  simp
theorem sumZ_mem {α : Type} (f : α → Nat) : ∀ {l : List α} {x : α}, x ∈ l → f x ≤ sumZ f l
  | y :: l, x, h => by
    unfold sumZ
    rw [List.map_cons, List.sum_cons]
    rcases List.mem_cons.1 h with rfl | h
    · omega
    · have := sumZ_mem f h
      unfold sumZ at this
      omega
def rqN (r : Rq) : Nat := r.2.1.size + r.2.2.size
def cfN (c : Cf) : Nat := c.2.size
set_option maxHeartbeats 16000000 in
theorem reportTexts_ok (aw : Awake) (a b : List Rq) (c : List Cf) (hz : ∀ r ∈ a, r.2.1.size ≤ 140737488355328 ∧ r.2.2.size ≤ 140737488355328) (hz2 : ∀ r ∈ b, r.2.1.size ≤ 140737488355328 ∧ r.2.2.size ≤ 140737488355328) (hz3 : ∀ r ∈ c, r.2.size ≤ 140737488355328) : ACall cx 4 [.sl 0 (rqs a), .sl 0 (rqs b), .sl 0 (cfs c)] (.bool true) none := by
  refine ACall.wpc (C := cx) T.func_4 (by kernel_rfl) rfl (by rfl) ?_
  simp [f4]
  refine callP_i aw ?_
  simp
  by_cases h1 : 30 < a.length
  · have h1' : (30 : Int) < a.length := by omega
    simp [h1']
  have h1' : ¬ (30 : Int) < a.length := by omega
  by_cases h2 : 30 < b.length
  · have h2' : (30 : Int) < b.length := by omega
    simp [h1', h2']
  have h2' : ¬ (30 : Int) < b.length := by omega
  by_cases h3 : 30 < c.length
  · have h3' : (30 : Int) < c.length := by omega
    simp [h1', h2', h3']
  have h3' : ¬ (30 : Int) < c.length := by omega
  simp [h1', h2', h3']
  refine loopK [0, 1, 2] (fun (i : Nat) _ => i ≤ a.length ∧ sumZ rqN (a.take i) ≤ 281474976710656 * i) (fun i => [(9, .int .i64 (i : Nat)), (8, .int .i64 (sumZ rqN (a.take i) : Nat))]) (fun _ => []) (fun _ => []) (fun i => a.length - i) 0 ⟨by simp, by simp [sumZ]⟩ (by simp [sumZ]) [] rfl (by simp) ?_
  rintro i nx g ⟨hi, hsm⟩ - -
  simp
  by_cases h4 : i < a.length
  · have w : IntKind.i64.wrap ((i : Int) + 1) = ((i + 1 : Nat) : Int) := by rw [wrap64_in (by omega) (by omega)]; omega
    have hs := sumZ_succ rqN h4
    have hzz := hz _ (List.getElem_mem h4)
    obtain ⟨⟨x, y, z⟩, hx⟩ : ∃ x, x = a[i] := ⟨_, rfl⟩
    rw [← hx] at hs hzz
    simp only [rqN] at hs
    dsimp only at hzz
    have w1 : IntKind.i64.wrap ((y.size : Int) + z.size) = (y.size : Int) + z.size := wrap64_in (by omega) (by omega)
    have w2 : IntKind.i64.wrap ((sumZ rqN (a.take i) : Int) + ((y.size : Int) + z.size)) = ((sumZ rqN (a.take (i + 1)) : Nat) : Int) := by rw [hs, wrap64_in (by omega) (by omega)]; omega
    simp [h4, rqV, ← hx, w1, w2]
    refine ⟨by kernel_rfl, ?_⟩
    exact againK_i (i + 1) g ⟨h4, by rw [hs]; omega⟩ (by omega) (by simp [w]) rfl (by simp)
  have : i = a.length := by omega
  subst this
  rw [List.take_length] at hsm ⊢
  simp
  refine loopK [0, 1, 2] (fun (i : Nat) _ => i ≤ b.length ∧ sumZ rqN (b.take i) ≤ 281474976710656 * i) (fun i => [(10, .int .i64 (i : Nat)), (8, .int .i64 ((sumZ rqN a + sumZ rqN (b.take i) : Nat) : Int))]) (fun _ => []) (fun _ => []) (fun i => b.length - i) 0 ⟨by simp, by simp [sumZ]⟩ (by simp [sumZ]) g (by simp) (by simp) ?_
  rintro i nx2 g2 ⟨hi2, hsm2⟩ - -
  simp
  by_cases h4 : i < b.length
  · have w : IntKind.i64.wrap ((i : Int) + 1) = ((i + 1 : Nat) : Int) := by rw [wrap64_in (by omega) (by omega)]; omega
    have hs := sumZ_succ rqN h4
    have hzz := hz2 _ (List.getElem_mem h4)
    obtain ⟨⟨x, y, z⟩, hx⟩ : ∃ x, x = b[i] := ⟨_, rfl⟩
    rw [← hx] at hs hzz
    simp only [rqN] at hs
    dsimp only at hzz
    have w1 : IntKind.i64.wrap ((y.size : Int) + z.size) = (y.size : Int) + z.size := wrap64_in (by omega) (by omega)
    have w2 : IntKind.i64.wrap ((sumZ rqN a : Int) + (sumZ rqN (b.take i) : Int) + ((y.size : Int) + z.size)) = (sumZ rqN a : Int) + ((sumZ rqN (b.take (i + 1)) : Nat) : Int) := by rw [hs, wrap64_in (by omega) (by omega)]; omega
    simp [h4, rqV, ← hx, w1, w2]
    refine ⟨by kernel_rfl, ?_⟩
    exact againK_i (i + 1) g2 ⟨h4, by rw [hs]; omega⟩ (by omega) (by simp [w]) (by simp) (by simp)
  have : i = b.length := by omega
  subst this
  rw [List.take_length] at hsm2 ⊢
  simp
  refine loopK [0, 1, 2] (fun (i : Nat) _ => i ≤ c.length ∧ sumZ cfN (c.take i) ≤ 281474976710656 * i) (fun i => [(11, .int .i64 (i : Nat)), (8, .int .i64 ((sumZ rqN a + sumZ rqN b + sumZ cfN (c.take i) : Nat) : Int))]) (fun _ => []) (fun _ => []) (fun i => c.length - i) 0 ⟨by simp, by simp [sumZ]⟩ (by simp [sumZ]) g2 (by simp) (by simp) ?_
  rintro i nx3 g3 ⟨hi3, hsm3⟩ - -
  simp
  by_cases h4 : i < c.length
  · have w : IntKind.i64.wrap ((i : Int) + 1) = ((i + 1 : Nat) : Int) := by rw [wrap64_in (by omega) (by omega)]; omega
    have hs := sumZ_succ cfN h4
    have hzz := hz3 _ (List.getElem_mem h4)
    obtain ⟨⟨x, y⟩, hx⟩ : ∃ x, x = c[i] := ⟨_, rfl⟩
    rw [← hx] at hs hzz
    simp only [cfN] at hs
    dsimp only at hzz
    have w2 : IntKind.i64.wrap ((sumZ rqN a : Int) + (sumZ rqN b : Int) + (sumZ cfN (c.take i) : Int) + (y.size : Int)) = (sumZ rqN a : Int) + (sumZ rqN b : Int) + ((sumZ cfN (c.take (i + 1)) : Nat) : Int) := by rw [hs, wrap64_in (by omega) (by omega)]; omega
    simp [h4, cfV, ← hx, w2]
    exact againK_i (i + 1) g3 ⟨h4, by rw [hs]; omega⟩ (by omega) (by simp [w]) (by simp) (by simp)
  have : i = c.length := by omega
  subst this
  rw [List.take_length]
  by_cases h5 : 3000 < sumZ rqN a + sumZ rqN b + sumZ cfN c
  · have h5' : (3000 : Int) < (sumZ rqN a : Int) + (sumZ rqN b : Int) + (sumZ cfN c : Int) := by omega
    simp [h5']
  · have h5' : ¬ (3000 : Int) < (sumZ rqN a : Int) + (sumZ rqN b : Int) + (sumZ cfN c : Int) := by omega
    have ha : rqZ a := ⟨by omega, fun r hr => by have := sumZ_mem rqN hr; simp only [rqN] at this; omega⟩
    have hb : rqZ b := ⟨by omega, fun r hr => by have := sumZ_mem rqN hr; simp only [rqN] at this; omega⟩
    have hc : cfZ c := ⟨by omega, fun r hr => by have := sumZ_mem cfN hr; simp only [cfN] at this; omega⟩
    simp [h5']
    generalize IntKind.i64.wrap _ = kk
    refine callP_i (text_ok kk a b c ha hb hc) ?_
    simp
    refine callP_i (rtext_ok kk a b c ha hb hc) ?_
    simp
    refine callP_i (count_ok c (by omega)) ?_
    simp
    refine callP_i (rcount_ok c (by omega)) ?_
    simp
    refine callP_i (isame_ok _ _ (by simp [countS])) ?_
    simp
end Go.Proofs.AL
namespace Go.Proofs.AL
open Go Go.RowKit Go.Proofs.YtbhomjhhinfojaaDoor
set_option linter.unusedVariables false
set_option linter.unusedSimpArgs false
/-! ## What a law's argument reads as -/
/-- All cells of a block. -/
def mAll (w : World) : Nat → Nat := fun b => match w.heap[b]? with
  | some (.cells c _ _) => c.size
  | _ => 0
theorem mAll_end (w : World) (b : Nat) (h : w.heap.size ≤ b) : mAll w b = 0 := by
  unfold mAll
  rw [Array.getElem?_eq_none h]
theorem mAll_cell {w : World} {b o : Nat} {v : Value} (h : w.cell? ⟨b, o, none⟩ = some v) : o < mAll w b := by
  unfold World.cell? at h
  unfold mAll
  cases hb : w.heap[b]? with
  | none => rw [hb] at h; cases h
  | some ob =>
    rw [hb] at h
    cases ob with
    | cells c T q => exact (Array.getElem?_eq_some_iff.1 h).1
    | _ => cases h
theorem spot_none {w : World} {a : Addr} {v : Value} (h : w.cell? a = some v) : a.spot = none := by
  unfold World.cell? at h
  split at h
  · split at h
    · cases h
    · rename_i hs
      cases hsp : a.spot with
      | none => rfl
      | some _ => rw [hsp] at hs; exact absurd rfl hs
  · cases h
/-- Whatever reads as data of type t is a value with these cells, of a size that the datum tells, and as the reach allows. -/
def ToldAt {α : Type} (P : Program) (t : TypeId) (cells : α → List AV) (sz : α → Nat) (ok : α → Prop) (fuel : Nat) : Prop :=
  ∀ {H : Type} {enc : TypeId × Value → H} {w : World} {held : Bool} {cs : List Value} {z : DataW H × List MemPlace},
    DataW.trod enc P w 0 (fun _ => true) held fuel t cs = some z → (∀ q ∈ DataW.weights P t z.1, q ≤ 140737488351232) → ∃ x, VL (gh1 (mAll w)) w (cells x) cs ∧ ok x ∧ sz x ≤ Rows.uptoBulk z.1
def Told {α : Type} (P : Program) (t : TypeId) (cells : α → List AV) (sz : α → Nat) (ok : α → Prop) : Prop := ∀ fuel, ToldAt P t cells sz ok fuel
theorem mapM_get {α β : Type} {f : α → Option β} : ∀ {l : List α} {xs : List β}, l.mapM f = some xs → xs.length = l.length ∧ ∀ (i : Nat) (a : α), l[i]? = some a → f a = xs[i]? := by
  intro l
  induction l with
  | nil => intro xs h; rw [List.mapM_nil] at h; cases h; exact ⟨rfl, fun i a hi => by simp at hi⟩
  | cons b l ih =>
    intro xs h
    rw [List.mapM_cons] at h
    cases hy : f b with
    | none => rw [hy] at h; cases h
    | some y =>
      rw [hy] at h
      cases hys : l.mapM f with
      | none => rw [hys] at h; cases h
      | some ys =>
        rw [hys] at h
        cases h
        obtain ⟨hl, hg⟩ := ih hys
        refine ⟨by rw [List.length_cons, List.length_cons, hl], fun i a hi => ?_⟩
        cases i with
        | zero => rw [List.getElem?_cons_zero] at hi ⊢; injection hi with hi; subst hi; exact hy
        | succ i => rw [List.getElem?_cons_succ] at hi ⊢; exact hg i a hi
theorem cells_at {w : World} {base : Nat} {a : Addr} {n : Nat} {cs : List Value} (h : w.cells? base a n = some cs) : cs.length = n ∧ ∀ i u, cs[i]? = some u → w.cell? (a.add i) = some u := by
  unfold World.cells? at h
  split at h
  · obtain ⟨hl, hg⟩ := mapM_get h
    rw [List.length_range] at hl
    refine ⟨hl, fun i u hi => ?_⟩
    have hlt : i < n := by
      rcases Nat.lt_or_ge i n with h1 | h1
      · exact h1
      · rw [List.getElem?_eq_none (by omega)] at hi; cases hi
    rw [hg i i (by rw [List.getElem?_range hlt])]; exact hi
  · cases h
theorem bulk_one {H : Type} (d : DataW H) : 1 ≤ Rows.uptoBulk d := by
  cases d with
  | lit l => cases l <;> simp [Rows.uptoBulk]
  | nil => simp [Rows.uptoBulk]
  | ptr d => simp [Rows.uptoBulk]
  | slice elems spare => simp [Rows.uptoBulk]
  | agg parts => simp [Rows.uptoBulk]
  | iface u d => simp [Rows.uptoBulk]
  | map entries => simp [Rows.uptoBulk]
  | held t => simp [Rows.uptoBulk]
theorem told_int {P : Program} {t : TypeId} {k : IntKind} (hu : P.underlying t = some (.int k)) : Told P t (fun x : Int => [.int k x]) (fun _ => 1) (fun x => (Lit.int k x).wf = true) := by
  intro fuel H enc w held cs z h _
  obtain ⟨n, rfl, rfl, hw⟩ := DataW.trod_int hu h
  exact ⟨n, .cons (.int k n) rfl .nil, hw, bulk_one _⟩
theorem told_bool {P : Program} {t : TypeId} (hu : P.underlying t = some .bool) : Told P t (fun x : Bool => [.bool x]) (fun _ => 1) (fun _ => True) := by
  intro fuel H enc w held cs z h _
  obtain ⟨n, rfl, rfl⟩ := DataW.trod_bool hu h
  exact ⟨n, .cons (.bool n) rfl .nil, trivial, bulk_one _⟩
theorem told_string {P : Program} {t : TypeId} (hu : P.underlying t = some .string) : Told P t (fun s : ByteArray => [.str s]) (fun s => s.size + 1) (fun s => s.size ≤ 140737488351232) := by
  intro fuel H enc w held cs z h hq
  obtain ⟨s, rfl, rfl, hs⟩ := DataW.trod_string hu h
  refine ⟨s, .cons (.str s) rfl .nil, ?_, ?_⟩
  · have := hq s.data.toList.length (by simp [DataW.weights])
    simpa using this
  · simp [Rows.uptoBulk]
def sumOf {α : Type} (sz : α → Nat) : List α → Nat
  | [] => 0
  | x :: l => sz x + sumOf sz l
theorem sumOf_le {α : Type} (sz : α → Nat) {l : List α} {x : α} (h : x ∈ l) : sz x ≤ sumOf sz l := by
  induction l with
  | nil => cases h
  | cons y l ih =>
    rw [sumOf]
    cases h with
    | head => exact Nat.le_add_right _ _
    | tail _ h => exact Nat.le_trans (ih h) (Nat.le_add_left _ _)
theorem rows_told {α : Type} {P : Program} {e : TypeId} {cells : α → List AV} {sz : α → Nat} {ok : α → Prop} {n : Nat} (ht : ToldAt P e cells sz ok n) {H : Type} {enc : TypeId × Value → H} {w : World} {held : Bool} (get : Nat → Option (List Value)) :
    ∀ (elems : List (DataW H × List MemPlace)) (k : Nat), (∀ i, i < elems.length → (get (k + i)).bind (DataW.trod enc P w 0 (fun _ => true) held n e) = elems[i]?) → (∀ q ∈ DataW.weightsAll P e (elems.map (·.1)), q ≤ 140737488351232) →
    ∃ l : List α, l.length = elems.length ∧ (∀ i x, l[i]? = some x → ∃ cs, get (k + i) = some cs ∧ VL (gh1 (mAll w)) w (cells x) cs) ∧ (∀ x ∈ l, ok x) ∧ sumOf sz l ≤ Rows.uptoBulkAll (elems.map (·.1)) := by
  intro elems
  induction elems with
  | nil => intro k _ _; exact ⟨[], rfl, (fun i x hi => (by simp at hi)), (fun x hx => (by cases hx)), Nat.zero_le _⟩
  | cons y elems ih =>
    intro k h hq
    rw [List.map_cons, DataW.weightsAll] at hq
    have h0 := h 0 (by simp)
    rw [List.getElem?_cons_zero, Nat.add_zero] at h0
    cases hc : get k with
    | none => rw [hc] at h0; cases h0
    | some cs =>
      rw [hc] at h0
      obtain ⟨x, hx, hox, hsx⟩ := ht h0 (fun q hm => hq q (List.mem_append_left _ hm))
      obtain ⟨l, hl, hg, ho, hs⟩ := ih (k + 1) (fun i hi => by
        have := h (i + 1) (by rw [List.length_cons]; omega)
        rw [List.getElem?_cons_succ] at this
        rw [← this, show k + 1 + i = k + (i + 1) by omega]) (fun q hm => hq q (List.mem_append_right _ hm))
      refine ⟨x :: l, by rw [List.length_cons, List.length_cons, hl], fun i u hi => ?_, fun u hu => ?_, ?_⟩
      · cases i with
        | zero => rw [List.getElem?_cons_zero] at hi; injection hi with hi; subst hi; exact ⟨cs, hc, hx⟩
        | succ i => rw [List.getElem?_cons_succ] at hi; obtain ⟨c, h1, h2⟩ := hg i u hi; exact ⟨c, by rw [show k + (i + 1) = k + 1 + i by omega]; exact h1, h2⟩
      · cases hu with
        | head => exact hox
        | tail _ hu => exact ho u hu
      · rw [sumOf, List.map_cons, Rows.uptoBulkAll]; omega
/-- A slice: c: how many cells an element has; B: how many bytes. -/
theorem told_slice_at {α : Type} {P : Program} {t e : TypeId} {cells : α → List AV} {sz : α → Nat} {ok : α → Prop} (c B : Nat) (hc0 : 0 < c) (hu : P.underlying t = some (.slice e)) (hc : P.cellsOf e = c) (hb : P.bytesOf e = B) (hcl : ∀ x, (cells x).length = c) (fuel : Nat) (he : ∀ n, n < fuel → ToldAt P e cells sz ok n) :
    ToldAt P t (fun l : List α => [.sl 0 (l.map cells)]) (fun l => sumOf sz l + 1) (fun l => l.length * B ≤ 140737488351232 ∧ ∀ x ∈ l, ok x) fuel := by
  intro H enc w held cs z h hq
  rcases DataW.trod_slice hu h with ⟨rfl, rfl⟩ | ⟨a, len, cap, elems, rest, n, rfl, rfl, rfl, _, hlc, hcm, hlen, hel, _, _⟩
  · exact ⟨[], .cons (.sl0 (.inl rfl)) rfl .nil, ⟨by simp, (fun x hx => (by cases hx))⟩, bulk_one _⟩
  · simp only [DataW.weights, hu] at hq
    obtain ⟨l, hl, hg, ho, hs⟩ := rows_told (he n (Nat.lt_succ_self n)) (H := H) (enc := enc) (w := w) (held := held) (fun i => w.cells? 0 (a.add (i * P.cellsOf e)) (P.cellsOf e)) elems 0
      (fun i hi => by rw [Nat.zero_add]; exact hel i (by omega)) (fun q hm => hq q (List.mem_cons_of_mem _ (List.mem_append_left _ hm)))
    have hll : l.length = len := by omega
    refine ⟨l, .cons ?_ rfl .nil, ⟨?_, ho⟩, ?_⟩
    · rcases Nat.eq_zero_or_pos l.length with h0 | h0
      · have hnil : l = [] := List.eq_nil_of_length_eq_zero h0
        subst hnil
        have : len = 0 := by omega
        subst this
        exact .sl0 (.inl rfl)
      · have key : ∀ (j i : Nat) (el : List AV) (x : AV), (l.map cells)[j]? = some el → el[i]? = some x → ∃ u, w.cell? ⟨a.block, a.off + (j * c + i), none⟩ = some u ∧ u.oneCell' = true ∧ V (gh1 (mAll w)) w x u ∧ a.spot = none := by
          intro j i el x hj hi
          rw [List.getElem?_map] at hj
          obtain ⟨p, hp, rfl⟩ := Option.map_eq_some_iff.1 hj
          obtain ⟨cs, h1, h2⟩ := hg j p hp
          rw [Nat.zero_add] at h1
          obtain ⟨g1, g2⟩ := cells_at h1
          have hil : i < cs.length := by have := (List.getElem?_eq_some_iff.1 hi).1; rw [h2.1] at this; exact this
          obtain ⟨v1, v2⟩ := h2.2 i x cs[i] hi (List.getElem?_eq_getElem hil)
          have hcell := g2 i cs[i] (List.getElem?_eq_getElem hil)
          rw [hc, Addr.add_add] at hcell
          have hsp := spot_none hcell
          by_cases h00 : j * c + i = 0
          · have e0 : a.add (j * c + i) = a := by unfold Addr.add; rw [if_pos h00]
            rw [e0] at hcell hsp
            have ea : (⟨a.block, a.off + (j * c + i), none⟩ : Addr) = a := by rw [h00, Nat.add_zero, ← hsp]
            exact ⟨_, by rw [ea]; exact hcell, v2, v1, hsp⟩
          · have e0 : a.add (j * c + i) = ⟨a.block, a.off + (j * c + i), none⟩ := by unfold Addr.add; rw [if_neg h00]
            rw [e0] at hcell
            have h0' : 0 < l.length := h0
            -- the row's own place: of its first cell
            have hp0 : l[0]? = some l[0] := List.getElem?_eq_getElem h0'
            obtain ⟨cs0, k1, k2⟩ := hg 0 _ hp0
            obtain ⟨q1, q2⟩ := cells_at k1
            have hl0 : 0 < cs0.length := by rw [q1, hc]; exact hc0
            have hz := q2 0 _ (List.getElem?_eq_getElem hl0)
            have ez : (a.add ((0 + 0) * P.cellsOf e)).add 0 = a := by unfold Addr.add; simp
            rw [ez] at hz
            exact ⟨_, hcell, v2, v1, spot_none hz⟩
        have hsp : a.spot = none := by
          have hel0 : (l.map cells)[0]? = some (cells l[0]) := by rw [List.getElem?_map, List.getElem?_eq_getElem h0]; rfl
          have hc1 : 0 < (cells l[0]).length := by rw [hcl]; exact hc0
          obtain ⟨_, _, _, _, h4⟩ := key 0 0 _ _ hel0 (List.getElem?_eq_getElem hc1)
          exact h4
        have ea : a = ⟨a.block, a.off, none⟩ := by cases a; simp at hsp; subst hsp; rfl
        rw [ea]
        refine .sl (sz := c) (fun j i => (w.cell? ⟨a.block, a.off + (j * c + i), none⟩).getD undef) (by omega) (by simp; omega) hlc hcm hc0 (fun el hel => ?_) (.inl rfl) (fun j i el x hj hi => ?_) (fun j i el x hj hi => ?_)
        · obtain ⟨p, _, rfl⟩ := List.mem_map.1 hel
          exact hcl p
        · obtain ⟨u, h1, h2, h3, _⟩ := key j i el x hj hi
          exact ⟨mAll_cell h1, by rw [h1]; rfl, by rw [h1]; exact h2⟩
        · obtain ⟨u, h1, h2, h3, _⟩ := key j i el x hj hi
          rw [h1]; exact h3
    · have := hq ((elems.length + rest.length) * P.bytesOf e) (by simp)
      rw [hb] at this
      rw [hl]
      exact Nat.le_trans (Nat.mul_le_mul_right _ (Nat.le_add_right _ _)) this
    · simp only [Rows.uptoBulk]; omega
theorem told_slice {α : Type} {P : Program} {t e : TypeId} {cells : α → List AV} {sz : α → Nat} {ok : α → Prop} (c B : Nat) (hc0 : 0 < c) (hu : P.underlying t = some (.slice e)) (hc : P.cellsOf e = c) (hb : P.bytesOf e = B) (hcl : ∀ x, (cells x).length = c) (he : Told P e cells sz ok) :
    Told P t (fun l : List α => [.sl 0 (l.map cells)]) (fun l => sumOf sz l + 1) (fun l => l.length * B ≤ 140737488351232 ∧ ∀ x ∈ l, ok x) := fun fuel => told_slice_at c B hc0 hu hc hb hcl fuel (fun n _ => he n)
theorem ToldAt.map {α β : Type} {P : Program} {t : TypeId} {cells : α → List AV} {sz : α → Nat} {ok : α → Prop} {fuel : Nat} (h : ToldAt P t cells sz ok fuel) {cells' : β → List AV} {sz' : β → Nat} {ok' : β → Prop} (f : α → β) (h1 : ∀ x, cells' (f x) = cells x) (h2 : ∀ x, sz' (f x) ≤ sz x) (h3 : ∀ x, ok x → ok' (f x)) : ToldAt P t cells' sz' ok' fuel := by
  intro H enc w held cs z h' hq
  obtain ⟨x, a, b, c⟩ := h h' hq
  exact ⟨f x, by rw [h1]; exact a, h3 x b, Nat.le_trans (h2 x) c⟩
/-- A field's part of a struct's cells. -/
theorem told_field {α : Type} {P : Program} {t : TypeId} {cells : α → List AV} {sz : α → Nat} {ok : α → Prop} {n : Nat} (ht : ToldAt P t cells sz ok n) {H : Type} {enc : TypeId × Value → H} {w : World} {held : Bool} {cs : List Value} {off k : Nat} {y : DataW H × List MemPlace} (hk : P.cellsOf t = k)
    (h : DataW.trod enc P w 0 (fun _ => true) held n t ((cs.drop off).take (P.cellsOf t)) = some y) (hq : ∀ q ∈ DataW.weights P t y.1, q ≤ 140737488351232) : ∃ x, VL (gh1 (mAll w)) w (cells x) ((cs.drop off).take k) ∧ ok x ∧ sz x ≤ Rows.uptoBulk y.1 := by
  rw [hk] at h
  exact ht h hq
/-- An argument, by its reading and its weights. -/
theorem told_arg {α : Type} {P : Program} {t : TypeId} {cells : α → List AV} {sz : α → Nat} {ok : α → Prop} (ht : Told P t cells sz ok) {H : Type} {enc : TypeId × Value → H} {w : World} {held : Bool} {ts : List TypeId} {ds : List (DataW H)} {j : Nat} {v : Value} {z : DataW H} {ps : List MemPlace}
    (h : DataW.Trod enc P w 0 (fun _ => true) held t v z ps) (hsz : (DataW.weightsEach P ts ds).all (· ≤ reachBytes) = true) (hj : ts[j]? = some t) (hd : ds[j]? = some z) : ∃ x, VL (gh1 (mAll w)) w (cells x) v.cells.toList ∧ ok x ∧ sz x ≤ Rows.uptoBulk z := by
  obtain ⟨fuel, hf⟩ := h
  obtain ⟨x, h1, h2, h3⟩ := ht fuel hf (fun q hq => by
    have := List.all_eq_true.1 hsz q (DataW.weights_mem_each hj hd q hq)
    exact of_decide_eq_true this)
  exact ⟨x, h1, h2, h3⟩
theorem vl_one {G : Gh} {w : World} {x : AV} {v : Value} (h : VL G w [x] v.cells.toList) (hn : ∀ cs, v ≠ .agg cs) : V G w x v := by
  cases v with
  | agg cs => exact absurd rfl (hn cs)
  | _ => exact (h.2 0 _ _ rfl rfl).1
theorem vl_struct {G : Gh} {w : World} {xs : List AV} {v : Value} (h : VL G w xs v.cells.toList) (hn : xs.length ≠ 1) : V G w (.agg xs) v := by
  cases v with
  | agg cs => exact VL.agg h
  | _ => exact absurd h.1 hn
theorem vl_agg {G : Gh} {w : World} {xs : List AV} {cs : Array Value} (h : VL G w xs (Value.agg cs).cells.toList) : V G w (.agg xs) (.agg cs) := VL.agg h
/-- The law's call: true, and what there was is as it was. -/
theorem law_calls {C : Cx} {f : FuncId} {args : List AV} (h : ACall C f args (.bool true) none) {W : World} {vs : Array Value} (hgi : C.GI (mAll W) W) (hl : vs.size = args.length) (hV : ∀ (i : Nat) (x : AV) (v : Value), args[i]? = some x → vs[i]? = some v → V (gh1 (mAll W)) W x v) :
    Calls C.P f vs W fun e w' => e = .returned (.bool true) ∧ Below W.heap.size W w' :=
  (h.2 (mAll W) W vs hgi (fun b hb => mAll_end W b hb) hl hV).mono (fun e w' ⟨v, m', he, hb, _, _, hv, _⟩ => ⟨by rw [he]; cases hv; rfl, hb⟩)
end Go.Proofs.AL
namespace Go.Proofs.AL
open Go Go.RowKit Go.Proofs.Tryd Go.Proofs.YtbhomjhhinfojaaDoor
set_option maxRecDepth 100000
set_option linter.unusedVariables false
def iok (n : Int) : Prop := (Lit.int .i64 n).wf = true
theorem told_rq : Told prog 33 (fun q : Rq => rqV q) (fun q => q.2.1.size + q.2.2.size + 1) (fun q => iok q.1 ∧ q.2.1.size ≤ 140737488351232 ∧ q.2.2.size ≤ 140737488351232) := by
  intro fuel H enc w held cs z h hq
  obtain ⟨xs, n, rfl, rfl, hl, hlen, hf⟩ := DataW.trod_struct Tryd.underlying33 h
  have et : prog.cellsOf 33 = 3 := by kernel_rfl
  rw [et] at hl
  simp only [DataW.weights, Tryd.underlying33] at hq
  match cs, hl with
  | [v0, v1, v2], _ =>
    match xs, hlen with
    | [y0, y1, y2], _ =>
      simp only [List.map_cons, List.map_nil, DataW.weightsEach, List.append_nil] at hq
      obtain ⟨x0, g0, o0, s0⟩ := told_field ((@told_int prog 3 .i64 Tryd.underlying3) n) (k := 1) (off := 0) (by kernel_rfl) (hf 0 _ rfl) (fun q hm => hq q (by simp [hm]))
      obtain ⟨x1, g1, o1, s1⟩ := told_field ((@told_string prog 9 Tryd.underlying9) n) (k := 1) (off := 1) (by kernel_rfl) (hf 1 _ rfl) (fun q hm => hq q (by simp [hm]))
      obtain ⟨x2, g2, o2, s2⟩ := told_field ((@told_string prog 9 Tryd.underlying9) n) (k := 1) (off := 2) (by kernel_rfl) (hf 2 _ rfl) (fun q hm => hq q (by simp [hm]))
      refine ⟨(x0, x1, x2), ?_, ⟨o0, o1, o2⟩, ?_⟩
      · have := ((g0.append g1).append g2)
        simpa [rqV] using this
      · simp only [Rows.uptoBulk, List.map_cons, List.map_nil, Rows.uptoBulkAll]
        first | omega | (simp; omega)
theorem told_cf : Told prog 23 (fun q : Cf => cfV q) (fun q => q.2.size + 1) (fun q => iok q.1 ∧ q.2.size ≤ 140737488351232) := by
  intro fuel H enc w held cs z h hq
  obtain ⟨xs, n, rfl, rfl, hl, hlen, hf⟩ := DataW.trod_struct Tryd.underlying23 h
  have et : prog.cellsOf 23 = 2 := by kernel_rfl
  rw [et] at hl
  simp only [DataW.weights, Tryd.underlying23] at hq
  match cs, hl with
  | [v0, v1], _ =>
    match xs, hlen with
    | [y0, y1], _ =>
      simp only [List.map_cons, List.map_nil, DataW.weightsEach, List.append_nil] at hq
      obtain ⟨x0, g0, o0, s0⟩ := told_field ((@told_int prog 3 .i64 Tryd.underlying3) n) (k := 1) (off := 0) (by kernel_rfl) (hf 0 _ rfl) (fun q hm => hq q (by simp [hm]))
      obtain ⟨x1, g1, o1, s1⟩ := told_field ((@told_string prog 9 Tryd.underlying9) n) (k := 1) (off := 1) (by kernel_rfl) (hf 1 _ rfl) (fun q hm => hq q (by simp [hm]))
      refine ⟨(x0, x1), ?_, ⟨o0, o1⟩, ?_⟩
      · have := (g0.append g1)
        simpa [cfV] using this
      · simp only [Rows.uptoBulk, List.map_cons, List.map_nil, Rows.uptoBulkAll]
        first | omega | (simp; omega)
theorem rqsz_of (l : List Rq) (h : sumOf (fun q : Rq => q.2.1.size + q.2.2.size + 1) l ≤ 1048576) : ∀ r ∈ l, r.2.1.size ≤ 2000000 ∧ r.2.2.size ≤ 2000000 := fun r hr => by
  have := sumOf_le (fun q : Rq => q.2.1.size + q.2.2.size + 1) hr
  omega
theorem cfsz_of (l : List Cf) (h : sumOf (fun q : Cf => q.2.size + 1) l ≤ 1048576) : ∀ r ∈ l, r.2.size ≤ 2000000 := fun r hr => by
  have := sumOf_le (fun q : Cf => q.2.size + 1) hr
  omega
end Go.Proofs.AL
namespace Go.Proofs.AL
open Go Go.RowKit Go.ChangeShapes Go.WideShapes Go.ChangeAt Go.Proofs.YtbhomjhhinfojaaDoor
/-! ### what the package's variables hold, out of the row's condition -/
def strData {H : Type} (l : List ByteArray) : DataW H := .agg (l.map fun s => .lit (.string s.data.toList))
theorem cells_of_strs {H : Type} {enc : TypeId × Value → H} {P : Program} {w : World} {base : Nat} {sp : Nat → Bool} {held : Bool} {fuel : Nat} {t e : TypeId} {n : Nat} {cs : List Value} {zs : List ByteArray} {p : List MemPlace}
    (ht : P.underlying t = some (.array n e)) (he : P.underlying e = some .string) (hce : P.cellsOf e = 1) (hct : P.cellsOf t = n)
    (h : DataW.trod enc P w base sp held fuel t cs = some (strData zs, p)) : cs = zs.map fun z => Value.string z := by
  cases fuel with
  | zero => simp [DataW.trod] at h
  | succ fuel =>
    simp only [DataW.trod, ht, hce, hct, Nat.mul_one] at h
    split at h
    · rename_i hl
      obtain ⟨xs, hm, hx⟩ := Option.map_eq_some_iff.1 h
      have hxs : xs.map (·.1) = zs.map fun z => (DataW.lit (.string z.data.toList) : DataW H) := by
        have := congrArg Prod.fst hx
        simpa [strData] using this
      have hxl : xs.length = n := by simpa using Lib.mapM_length hm
      have hzl : zs.length = n := by
        have := congrArg List.length hxs
        simp at this
        omega
      apply List.ext_getElem?
      intro i
      by_cases hi : i < n
      · obtain ⟨b, hb, hf⟩ := Lib.mapM_at hm i i (by simp [hi])
        obtain ⟨z, hc, rfl, _⟩ := DataW.trod_string he hf
        have h1 : cs[i]? = some (.string z) := by
          have := congrArg (·[0]?) hc
          simpa [List.getElem?_take, List.getElem?_drop] using this
        have h2 : (xs.map (·.1))[i]? = some (DataW.lit (.string z.data.toList) : DataW H) := by simp [hb]
        rw [hxs] at h2
        simp only [List.getElem?_map, Option.map_eq_some_iff, DataW.lit.injEq, Lit.string.injEq] at h2
        obtain ⟨z', hz', hzz⟩ := h2
        have : z' = z := ba_toList_inj hzz
        subst this
        simp [h1, hz']
      · rw [List.getElem?_eq_none (by omega), List.getElem?_eq_none (by simp; omega)]
    · cases h
theorem glob_of_var {W : World} {nm : String} {g : Nat} {l : List ByteArray} {cs : Array Value} (hg : Tryd.prog.globalNamed nm = some g) (hv : W.var? Tryd.prog nm = some cs) (hc : cs.toList = l.map fun z => Value.string z) (hl : l ≠ []) : GlobAt (mAll W) W g l := by
  unfold World.var? at hv
  rw [hg, Option.bind_some] at hv
  cases hq : W.heap[g]? with
  | none => rw [hq] at hv; cases hv
  | some o =>
    rw [hq] at hv
    cases o with
    | cells cur T fr =>
      have hv : cur = cs := Option.some.inj hv
      subst hv
      have hsz : cur.size = l.length := by have := congrArg List.length hc; simpa using this
      refine ⟨?_, (Array.getElem?_eq_some_iff.1 hq).1, fun i x hx => ?_⟩
      · unfold mAll; rw [hq]; dsimp only; omega
      · rw [cell_of_heap hq, ← Array.getElem?_toList, hc, List.getElem?_map, hx]; rfl
    | _ => cases hv
theorem vars_of_laid {W : World} (h : laidMetH Tryd.prog Rows.reportLinesRow.laid W) : VarsOk (mAll W) W := by
  rw [MakeChecks.laidMetH_plain _ _ _ (by kernel_rfl)] at h
  obtain ⟨ps, ⟨g0, t0, cs0, f0, p0, q0, hg0, ht0, hv0, hd0, ⟨g1, t1, cs1, f1, p1, q1, hg1, ht1, hv1, hd1, ⟨g2, t2, cs2, f2, p2, q2, hg2, ht2, hv2, hd2, _, _⟩, _⟩, _⟩, _, _⟩ := h
  obtain rfl := Option.some.inj ((show Tryd.prog.globalNamed "concordat/request.words" = some 2 by kernel_rfl).symm.trans hg0)
  obtain rfl := Option.some.inj ((show Tryd.prog.globalNamed "concordat/report.kinds" = some 0 by kernel_rfl).symm.trans hg1)
  obtain rfl := Option.some.inj ((show Tryd.prog.globalNamed "concordat/report.outcomes" = some 1 by kernel_rfl).symm.trans hg2)
  obtain rfl := Option.some.inj ((show (Tryd.prog.globals[2]?).map (·.type) = some 69 by kernel_rfl).symm.trans ht0)
  obtain rfl := Option.some.inj ((show (Tryd.prog.globals[0]?).map (·.type) = some 45 by kernel_rfl).symm.trans ht1)
  obtain rfl := Option.some.inj ((show (Tryd.prog.globals[1]?).map (·.type) = some 49 by kernel_rfl).symm.trans ht2)
  have e0 : Rows.laid_concordat_request_words (H := Unit) = strData wordsL := by kernel_rfl
  have e1 : Rows.laid_concordat_report_kinds (H := Unit) = strData kindsL := by kernel_rfl
  have e2 : Rows.laid_concordat_report_outcomes (H := Unit) = strData outsL := by kernel_rfl
  rw [e0] at hd0
  rw [e1] at hd1
  rw [e2] at hd2
  have c0 := cells_of_strs Tryd.underlying69 Tryd.underlying9 (by kernel_rfl) (by kernel_rfl) hd0
  have c1 := cells_of_strs Tryd.underlying45 Tryd.underlying9 (by kernel_rfl) (by kernel_rfl) hd1
  have c2 := cells_of_strs Tryd.underlying49 Tryd.underlying9 (by kernel_rfl) (by kernel_rfl) hd2
  exact ⟨glob_of_var hg1 hv1 (by simpa using c1) (by simp [kindsL]), glob_of_var hg2 hv2 (by simpa using c2) (by simp [outsL]), glob_of_var hg0 hv0 (by simpa using c0) (by simp [wordsL])⟩
set_option maxRecDepth 100000 in
theorem door_met (os : Os) (args : Array Value) : laidMetH Tryd.prog Rows.reportLinesRow.laid ((World.doorLaid Tryd.prog 24 os).forCall (fun _ _ => 0) ⟨#[], args, []⟩).memory :=
  laidMetH_of_parts3 (fuel := 8) (laidMet_of_run' 8 (by kernel_rfl) (by kernel_rfl)) (by kernel_rfl) (by kernel_rfl)
end Go.Proofs.AL
