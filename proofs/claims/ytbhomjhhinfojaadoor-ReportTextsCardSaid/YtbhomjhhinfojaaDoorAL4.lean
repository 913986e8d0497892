/- What Go functions compute, without memory: an evaluator of the program's own operations, and that it is sound (part 4). -/
import Derived.Test.YtbhomjhhinfojaaDoorAL3
namespace Go.Proofs.AL
open Go Go.RowKit
set_option linter.unusedSimpArgs false
set_option linter.unusedVariables false

/-! ## The whole as one function of numbers, texts, lists -/
mutual
def pu : AV → Bool
  | .int _ _ => true
  | .bool _ => true
  | .str _ => true
  | .agg cs => puL cs
  | .tup cs => puL cs
  | .sl t xs => (t == 0 && puLL xs) || ((t == 1 || t == 2) && xs.isEmpty)
  | .cptr cs => puL cs
  | .ptr _ _ => false
  | .nilp => true
  | .fn _ fs cs => puL fs && puL cs
  | .nilf => true
  | .own _ _ => false
  | .eptr _ _ _ _ => false
  | .mp _ => false
  | .nilm => true
  | .mpo _ _ => false
  | .ifc _ x => pu x
  | .nili => true
  | .opq => true
  | .tp _ _ _ _ => false
def puL : List AV → Bool
  | [] => true
  | x :: l => pu x && puL l
def puLL : List (List AV) → Bool
  | [] => true
  | x :: l => puL x && puLL l
end
mutual
theorem pu_ok : ∀ {x : AV}, pu x = true → Pu x
  | .int k n, _ => .int k n
  | .bool b, _ => .bool b
  | .str s, _ => .str s
  | .agg cs, h => .agg (puL_ok (by simpa [pu] using h))
  | .tup cs, h => .tup (puL_ok (by simpa [pu] using h))
  | .sl t xs, h => by
    simp only [pu, Bool.or_eq_true, Bool.and_eq_true, beq_iff_eq, List.isEmpty_iff] at h
    rcases h with ⟨rfl, h⟩ | ⟨rfl | rfl, rfl⟩
    · exact .sl (puLL_ok h)
    · exact .sl1
    · exact .sl2
  | .cptr cs, h => .cptr (puL_ok (by simpa [pu] using h))
  | .ptr _ _, h => by simp [pu] at h
  | .nilp, _ => .nilp
  | .fn f fs cs, h => by
    simp only [pu, Bool.and_eq_true] at h
    exact .fn (puL_ok h.1) (puL_ok h.2)
  | .nilf, _ => .nilf
  | .own _ _, h => by simp [pu] at h
  | .eptr _ _ _ _, h => by simp [pu] at h
  | .mp _, h => by simp [pu] at h
  | .nilm, _ => .nilm
  | .mpo _ _, h => by simp [pu] at h
  | .ifc _ x, h => .ifc (pu_ok (by simpa [pu] using h))
  | .nili, _ => .nili
  | .opq, _ => .opq
  | .tp _ _ _ _, h => by simp [pu] at h
theorem puL_ok : ∀ {l : List AV}, puL l = true → ∀ c ∈ l, Pu c
  | [], _ => fun _ h => by cases h
  | x :: l, h => by
    simp only [puL, Bool.and_eq_true] at h
    have h1 := pu_ok h.1
    have h2 := puL_ok h.2
    exact fun c hc => (List.mem_cons.1 hc).elim (fun e => e ▸ h1) (fun hc => h2 c hc)
theorem puLL_ok : ∀ {l : List (List AV)}, puLL l = true → ∀ el ∈ l, ∀ c ∈ el, Pu c
  | [], _ => fun _ h => by cases h
  | x :: l, h => by
    simp only [puLL, Bool.and_eq_true] at h
    have h1 := puL_ok h.1
    have h2 := puLL_ok h.2
    exact fun c hc => (List.mem_cons.1 hc).elim (fun e => e ▸ h1) (fun hc => h2 c hc)
end

def labOf : Eff → Lab := .eff
/-- One operation; calls by a function of their own. -/
def stepA (P : Program) (ca : FuncId → List AV → Option (AV × Option (Nat × TypeId))) (ops : Array Oper) (s : AS) (o : Oper) : Option (Lab × AS) :=
  match guardOf ops s o with
  | none => none
  | some false => if dstOk s o = true then some (.skip, s.put o.dst (.tup [])) else none
  | some true => if dstOk s o = true then
      (match o.op with
      | .call c => match c.callee with
        | .value fo => match evalO s fo, evalL s c.args.toList with
          | some (.fn (.func g) [] []), some xs => if puL (xs.map er) = true then (ca g (xs.map er)).bind fun q => some (.call q.2.isSome, callSt s o.dst q.1 q.2) else none
          | _, _ => none
        | _ => (ev P s (.call c)).bind fun e => some (.eff e, apEff s o.dst e)
      | op => (ev P s op).bind fun e => some (.eff e, apEff s o.dst e))
    else none
def opsA (P : Program) (ca : FuncId → List AV → Option (AV × Option (Nat × TypeId))) (ops : Array Oper) : List Oper → AS → Option (List Lab × AS)
  | [], s => some ([], s)
  | o :: l, s => (stepA P ca ops s o).bind fun q => (opsA P ca ops l q.2).bind fun q' => some (q.1 :: q'.1, q'.2)
def codeA (P : Program) (ca : FuncId → List AV → Option (AV × Option (Nat × TypeId))) : Nat → Code → AS → Option (Exit × AS)
  | 0, _, _ => none
  | k + 1, c, s =>
    match c with
    | .skip => some (.normal, s)
    | .label _ => some (.normal, s)
    | .ret => some (.ret, s)
    | .exit id => some (.exit id, s)
    | .seq x y => (codeA P ca k x s).bind fun q => match q.1 with
      | .normal => codeA P ca k y q.2
      | e => some (e, q.2)
    | .cond c x y => match evalO s c with
      | some (.bool true) => codeA P ca k x s
      | some (.bool false) => codeA P ca k y s
      | _ => none
    | .block id x => (codeA P ca k x s).bind fun q => match q.1 with
      | .exit id' => if id' = id then some (.normal, q.2) else some (.exit id', q.2)
      | e => some (e, q.2)
    | .loop x => (codeA P ca k x s).bind fun q => match q.1 with
      | .normal => codeA P ca k (.loop x) q.2
      | e => some (e, q.2)
    | .region _ ops draw => (opsA P ca ops ops.toList s).bind fun q => if (!draw || psafe ops q.1) = true then some (.normal, q.2) else none
    | _ => none
def ownOf (P : Program) (s : AS) : Nat → List TypeId → List AV → Option (Nat × TypeId)
  | i, t :: ts, .sl k xs :: l => match elT P t with
    | some e => if k = 1 ∨ (k ≠ 0 ∧ k ≠ 2 ∧ tyOf (s.live k) = some e) then some (i, e) else ownOf P s (i + 1) ts l
    | none => ownOf P s (i + 1) ts l
  | i, _ :: ts, _ :: l => ownOf P s (i + 1) ts l
  | _, _, _ => none
def callA (P : Program) : Nat → FuncId → List AV → Option (AV × Option (Nat × TypeId))
  | 0, _, _ => none
  | k + 1, f, args =>
    match P.funcs[f]? with
    | none => none
    | some fn => match fn.body with
      | none => none
      | some c => if (fn.name == "runtime.NumGoroutine") = false ∧ args.length ≤ fn.ntmps then
          (codeA P (callA P k) k c (start args fn.ntmps)).bind fun q => match q.1 with
            | .ret => outA P fn q.2
            | .normal => outA P fn q.2
            | _ => none
        else none
where
  outA (P : Program) (fn : Func) (s : AS) : Option (AV × Option (Nat × TypeId)) :=
    (resL P s fn.results.toList).bind fun l => if pu (frzT s (erT (tup1 l))) = true then some (frzT s (erT (tup1 l)), ownOf P s 0 fn.resultTypes.toList l) else none

section
variable {C : Cx} {ca : FuncId → List AV → Option (AV × Option (Nat × TypeId))}
theorem stepA_ok (hca : ∀ f xs q, ca f xs = some q → ACall C f xs q.1 q.2) {ops : Array Oper} {s s' : AS} {o : Oper} {l : Lab} (h : stepA C.P ca ops s o = some (l, s')) : Stp C ops o l s s' := by
  unfold stepA at h
  split at h
  · cases h
  · rename_i hg
    split at h
    case isFalse => cases h
    rename_i hd
    cases h; exact .skip hg hd
  rename_i hg
  split at h
  case isFalse => cases h
  rename_i hd
  have gen : ∀ op, o.op = op → ((ev C.P s op).bind fun e => some (Lab.eff e, apEff s o.dst e)) = some (l, s') → Stp C ops o l s s' := by
    rintro op rfl h
    obtain ⟨e, he, h⟩ := Option.bind_eq_some_iff.1 h
    cases h
    exact .eff hg hd he
  split at h
  · rename_i c hc
    split at h
    · rename_i fo hfo
      split at h
      case h_2 => cases h
      rename_i g xs e1 e2
      split at h
      case isFalse => cases h
      rename_i hp
      obtain ⟨q, hq, h⟩ := Option.bind_eq_some_iff.1 h
      cases h
      exact .call hg hd hc hfo e1 e2 (fun x hx => puL_ok hp _ (List.mem_map.2 ⟨x, hx, rfl⟩)) (hca _ _ _ hq)
    · exact gen _ hc h
  · exact gen _ rfl h
theorem opsA_ok (hca : ∀ f xs q, ca f xs = some q → ACall C f xs q.1 q.2) {ops : Array Oper} : ∀ {L : List Oper} {k : Nat} {s s' : AS} {labs pre : List Lab}, (∀ j, L[j]? = ops[k + j]?) → pre.length = k → opsA C.P ca ops L s = some (labs, s') →
    labs.length = L.length ∧ Der C ops (pre ++ labs) (List.range' k L.length) s s'
  | [], k, s, s', labs, pre, _, _, h => by cases h; exact ⟨rfl, .nil s⟩
  | o :: L, k, s, s', labs, pre, hL, hp, h => by
    unfold opsA at h
    obtain ⟨⟨l, s1⟩, h1, h⟩ := Option.bind_eq_some_iff.1 h
    obtain ⟨⟨ls, s2⟩, h2, h⟩ := Option.bind_eq_some_iff.1 h
    cases h
    have hlen : (pre ++ [l]).length = k + 1 := by simp [hp]
    obtain ⟨g1, g2⟩ := opsA_ok (k := k + 1) (pre := pre ++ [l]) hca (fun j => by
      have := hL (j + 1)
      simp only [List.getElem?_cons_succ] at this
      rw [this]; congr 1; omega) hlen h2
    refine ⟨by simp [g1], ?_⟩
    rw [List.length_cons, List.range'_succ]
    refine .cons (o := o) (l := l) (by have := hL 0; simpa using this.symm) ?_ (stepA_ok hca h1) ?_
    · rw [List.getElem?_append_right (by omega)]; simp [hp]
    · rw [List.append_assoc] at g2; exact g2
theorem codeA_ok (hca : ∀ f xs q, ca f xs = some q → ACall C f xs q.1 q.2) {r : Option Nat} : ∀ {k : Nat} {c : Code} {s s' : AS} {e : Exit}, codeA C.P ca k c s = some (e, s') → ACode C r c s (fun e' u => e' = e ∧ u = s') := by
  intro k
  induction k using Nat.strongRecOn with
  | _ k IH =>
  cases k with
  | zero => intro c s s' e h; cases h
  | succ k =>
    have ih : ∀ {c : Code} {s s' : AS} {e : Exit}, codeA C.P ca k c s = some (e, s') → ACode C r c s (fun e' u => e' = e ∧ u = s') := fun h => IH k (Nat.lt_succ_self k) h
    intro c s s' e h
    cases c with
    | skip => cases h; exact .skip ⟨rfl, rfl⟩
    | label l => cases h; exact .label ⟨rfl, rfl⟩
    | ret => cases h; exact .ret ⟨rfl, rfl⟩
    | exit id => cases h; exact .exit ⟨rfl, rfl⟩
    | seq x y =>
      simp only [codeA] at h
      obtain ⟨⟨e1, s1⟩, h1, h⟩ := Option.bind_eq_some_iff.1 h
      refine .seq ((ih h1).mono ?_)
      rintro e' u ⟨rfl, rfl⟩
      cases e' with
      | normal => exact ih h
      | _ => cases h; exact ⟨rfl, rfl⟩
    | cond c x y =>
      simp only [codeA] at h
      split at h
      · rename_i hc; exact .cond hc (ih h)
      · rename_i hc; exact .cond hc (ih h)
      · cases h
    | block id x =>
      simp only [codeA] at h
      obtain ⟨⟨e1, s1⟩, h1, h⟩ := Option.bind_eq_some_iff.1 h
      refine .block ((ih h1).mono ?_)
      rintro e' u ⟨rfl, rfl⟩
      cases e' with
      | exit id' =>
        unfold inBlockA
        dsimp only at h ⊢
        split at h
        · rename_i hi; cases h; rw [if_pos hi]; exact ⟨rfl, rfl⟩
        · rename_i hi; cases h; rw [if_neg hi]; exact ⟨rfl, rfl⟩
      | _ => cases h; exact ⟨rfl, rfl⟩
    | loop x =>
      have key : ∀ (n : Nat) (s : AS), codeA C.P ca n (.loop x) s = some (e, s') → n ≤ k + 1 → ALoop C r x n s (fun e' u => e' = e ∧ u = s') := by
        intro n
        induction n with
        | zero => intro s h; cases h
        | succ n ihn =>
          intro s h hn
          simp only [codeA] at h
          obtain ⟨⟨e1, s1⟩, h1, h⟩ := Option.bind_eq_some_iff.1 h
          have hx : ACode C r x s (fun e' u => e' = e1 ∧ u = s1) := IH n (by omega) h1
          refine hx.mono ?_
          rintro e' u ⟨rfl, rfl⟩
          cases e' with
          | normal => exact ihn _ h (by omega)
          | _ => cases h; exact ⟨rfl, rfl⟩
      exact .loop (k + 1) (key (k + 1) s h (Nat.le_refl _))
    | region id ops draw =>
      simp only [codeA] at h
      obtain ⟨⟨labs, s1⟩, h1, h⟩ := Option.bind_eq_some_iff.1 h
      dsimp only at h
      split at h
      case isFalse => cases h
      rename_i hs
      cases h
      obtain ⟨g1, g2⟩ := opsA_ok (k := 0) (pre := []) hca (fun j => by simp) rfl h1
      rw [List.nil_append, ← List.range_eq_range', Array.length_toList] at g2
      exact .region labs g2 (fun hd => by rw [hd] at hs; simpa using hs) ⟨rfl, rfl⟩
    | _ => cases h
end
end Go.Proofs.AL
namespace Go.Proofs.AL
open Go Go.RowKit
set_option linter.unusedSimpArgs false
set_option linter.unusedVariables false

section
variable {C : Cx}
theorem ownOf_ok {P : Program} {s : AS} : ∀ {l : List AV} {ts : List TypeId} {i j : Nat} {e : TypeId}, ownOf P s i ts l = some (j, e) → i ≤ j ∧ ∃ t xs, l[j - i]? = some (.sl t xs) ∧ (t = 1 ∨ (t ≠ 0 ∧ t ≠ 2 ∧ tyOf (s.live t) = some e))
  | [], ts, i, j, e, h => by cases ts <;> cases h
  | x :: l, [], i, j, e, h => by cases x <;> cases h
  | x :: l, t :: ts, i, j, e, h => by
    have next : ownOf P s (i + 1) ts l = some (j, e) → i ≤ j ∧ ∃ t xs, (x :: l)[j - i]? = some (.sl t xs) ∧ (t = 1 ∨ (t ≠ 0 ∧ t ≠ 2 ∧ tyOf (s.live t) = some e)) := by
      intro h
      obtain ⟨h1, t', xs, h2, h3⟩ := ownOf_ok h
      refine ⟨by omega, t', xs, ?_, h3⟩
      rw [show j - i = (j - (i + 1)) + 1 by omega, List.getElem?_cons_succ]; exact h2
    cases x with
    | sl k xs =>
      unfold ownOf at h
      split at h
      · split at h
        · rename_i hk
          cases h
          exact ⟨Nat.le_refl _, k, xs, by rw [Nat.sub_self]; rfl, hk⟩
        · exact next h
      · exact next h
    | _ => exact next (by simpa [ownOf] using h)
theorem outA_ok {fn : Func} {s : AS} {q : AV × Option (Nat × TypeId)} (h : callA.outA C.P fn s = some q) : Out C fn s q.1 q.2 := by
  unfold callA.outA at h
  obtain ⟨l, hl, h⟩ := Option.bind_eq_some_iff.1 h
  split at h
  case isFalse => cases h
  rename_i hp
  cases h
  refine ⟨l, hl, rfl, pu_ok hp, fun i e ho => ?_⟩
  obtain ⟨h1, t, xs, h2, h3⟩ := ownOf_ok ho
  rw [Nat.sub_zero] at h2
  refine ⟨t, xs, ?_, h3.imp_right (fun ⟨a, b, c⟩ => ⟨a, b, tyOf_ok c⟩)⟩
  match l, h2 with
  | [x], h2 =>
    have hi : i = 0 := by have := (List.getElem?_eq_some_iff.1 h2).1; simpa using this
    subst hi
    have hx : x = .sl t xs := by simpa using h2
    subst hx
    rfl
  | x :: y :: l, h2 => exact h2
theorem callA_ok : ∀ {k : Nat} {f : FuncId} {args : List AV} {q : AV × Option (Nat × TypeId)}, callA C.P k f args = some q → ACall C f args q.1 q.2 := by
  intro k
  induction k with
  | zero => intro f args q h; cases h
  | succ k ih =>
    intro f args q h
    unfold callA at h
    split at h
    · cases h
    rename_i fn hf
    split at h
    · cases h
    rename_i c hb
    split at h
    case isFalse => cases h
    rename_i hc
    obtain ⟨⟨e, s'⟩, h1, h⟩ := Option.bind_eq_some_iff.1 h
    refine ACall.mk hf hc.1 hb hc.2 ((codeA_ok (fun f xs q hq => ih hq) h1).mono ?_)
    rintro e' u ⟨rfl, rfl⟩
    dsimp only at h
    cases e' with
    | ret => exact ⟨.inl rfl, outA_ok h⟩
    | normal => exact ⟨.inr rfl, outA_ok h⟩
    | _ => cases h
end

end Go.Proofs.AL
namespace Go.Proofs.AL
open Go Go.RowKit
set_option linter.unusedSimpArgs false
set_option linter.unusedVariables false

/-! ## Calls in the caller's memory -/
def AS.fr (s : AS) (N : Nat) (tm : Nat → Option AV) : AS := { s with N := N, tm := tm }
def JCall (C : Cx) (f : FuncId) (args : List AV) (s : AS) (K : AV → AS → Prop) : Prop :=
  EntersF C.P f ∧ ∀ (E : Env) (G : Gh) (a : Act) (w : World) (vs : Array Value), Rel C E G s a w → vs.size = args.length →
    (∀ (i : Nat) (x : AV) (v : Value), args[i]? = some x → vs[i]? = some v → V G w x v) →
    Calls C.P f vs w fun e w' => ∃ v res s2 G', e = .returned v ∧ K res s2 ∧ Rel C E G' (s2.fr s.N s.tm) a w' ∧ V G' w' res v
def marksOf (ds : List Deferred) : List Nat := ds.filterMap fun d => match d.target with | .collected D => some D | _ => none
theorem marksOf_mem {ds : List Deferred} {D : Nat} (h : ({ target := .collected D, args := #[] } : Deferred) ∈ ds) : D ∈ marksOf ds := List.mem_filterMap.2 ⟨_, h, rfl⟩
section
variable {C : Cx} {E : Env} {G : Gh} {s : AS} {a : Act} {w : World}
/-- Another frame in the same memory, this one put by. -/
theorem Rel.other (h : Rel C E G s a w) {N : Nat} {tm : Nat → Option AV} {tmps : Array Value} (hN : tmps.size = N) (ht : ∀ (t : Nat) (x : AV), tm t = some x → ∃ v, slot tmps t = some v ∧ V G w x v) :
    Rel C { E with G1 := G, w1 := w, mks := marksOf a.defers ++ E.mks } G (s.fr N tm) { tmps := tmps, defers := [] } w :=
  { h with
    N := hN
    tm := ht
    df := .nil _ _
    mo := Mo.refl G w
    mks := fun D hD => by
      rcases List.mem_append.1 hD with h1 | h1
      · obtain ⟨d, hd, e⟩ := List.mem_filterMap.1 h1
        obtain ⟨D', rfl, k⟩ := h.df.1 d hd
        cases e
        exact k
      · exact h.mks D h1
    dm := fun D _ hD => by cases hD }
theorem Rel.back (h : Rel C E G s a w) {G' : Gh} {s2 : AS} {a2 : Act} {w' : World} (h2 : Rel C { E with G1 := G, w1 := w, mks := marksOf a.defers ++ E.mks } G' s2 a2 w') : Rel C E G' (s2.fr s.N s.tm) a w' :=
  { h2 with
    N := h.N
    tm := fun t x hx => let ⟨v, e1, e2⟩ := h.tm t x hx; ⟨v, e1, e2.mono h2.mo⟩
    df := ⟨fun d hd => by
      obtain ⟨D, rfl, k⟩ := h.df.1 d hd
      exact ⟨D, rfl, h2.mks D (List.mem_append.2 (.inl (marksOf_mem hd)))⟩, h.df.2⟩
    mo := h.mo.trans h2.mo
    mks := fun D hD => h2.mks D (List.mem_append.2 (.inr hD))
    dm := h.dm }
theorem res_run (hrel : Rel C E G s a w) {fn : Func} {l : List AV} (hl : resL C.P s fn.results.toList = some l) : ∃ v, (results fn a.tmps).run C.P w = .ok v w ∧ V G w (tup1 l) v := by
  obtain ⟨us, q1, q2, q3⟩ := resL_ok hrel hl
  refine ⟨if h : us.toArray.size = 1 then us.toArray[0] else .tuple us.toArray, ?_, ?_⟩
  · unfold results
    simp only [Sem.run_bind]
    rw [Array.mapM_eq_mapM_toList, Sem.run_map]
    erw [q1]
    rfl
  · match l, us, q2, q3 with
    | [x], [u], _, q3 => simpa [tup1] using q3 0 x u rfl rfl
    | [], [], _, q3 => exact .tup rfl (fun i c h => by simp at h)
    | x :: y :: l, u :: v :: us, q2, q3 =>
      rw [dif_neg (by simp)]
      exact .tup (by simpa using q2) (fun i c hc v hv => q3 i c v hc (by simpa using hv))
theorem JCall.mk {f : FuncId} {fn : Func} {c : Code} {args : List AV} {K : AV → AS → Prop} (hf : C.P.funcs[f]? = some fn) (hname : (fn.name == "runtime.NumGoroutine") = false) (hb : fn.body = some c) (hn : args.length ≤ fn.ntmps)
    (h : ACode C none c (s.fr fn.ntmps (fun t => args[t]?)) (fun e s2 => (e = .ret ∨ e = .normal) ∧ ∃ l, resL C.P s2 fn.results.toList = some l ∧ K (tup1 l) s2)) : JCall C f args s K := by
  refine ⟨⟨fn, c, hf, hname, hb⟩, fun E G a w vs hR hlen hV => ?_⟩
  have hinit := hR.other (N := fn.ntmps) (tm := fun t => args[t]?) (tmps := vs ++ Array.replicate (fn.ntmps - vs.size) undef) (by simp; omega) (fun t x hx => by
    have hlt := (List.getElem?_eq_some_iff.1 hx).1
    have hlt' : t < vs.size := by omega
    exact ⟨vs[t], slot_of (by rw [Array.getElem?_append_left hlt']; exact Array.getElem?_eq_getElem hlt'), hV t x _ hx (Array.getElem?_eq_getElem hlt')⟩)
  refine (callsIn_wide (n := 0)).1 (callsIn_of_wp_marks (F := Fence.wide) hf hb trivial ?_)
  refine wpIn_mono (h _ G _ w hinit) (fun e a' w' ⟨s', G', ⟨he, l, hl, hk⟩, hrel⟩ => ?_)
  have fin : LeavesInM Fence.wide 0 C.P fn a'.tmps (fun e w' => ∃ v res s2 G', e = .returned v ∧ K res s2 ∧ Rel C E G' (s2.fr s.N s.tm) a w' ∧ V G' w' res v) a'.defers .returning w' := by
    refine leave_ok _ hrel rfl rfl (fun w'' a'' ht0 hrel2 _ => ?_)
    rw [← ht0]
    obtain ⟨v, h1, h2⟩ := res_run hrel2 hl
    exact ⟨v, h1, v, tup1 l, s', G', rfl, hk, hR.back hrel2, h2⟩
  rcases he with rfl | rfl
  · exact fin
  · exact fin
theorem JCall.mono {f : FuncId} {args : List AV} {K L : AV → AS → Prop} (h : JCall C f args s K) (hk : ∀ res s2, K res s2 → L res s2) : JCall C f args s L :=
  ⟨h.1, fun E G a w vs hR hl hV => (h.2 E G a w vs hR hl hV).mono (fun e w' ⟨v, res, s2, G', e1, e2, e3, e4⟩ => ⟨v, res, s2, G', e1, hk _ _ e2, e3, e4⟩)⟩
end
end Go.Proofs.AL
namespace Go.Proofs.AL
open Go Go.RowKit
set_option linter.unusedSimpArgs false
set_option linter.unusedVariables false

/-! ## Range over a function -/
def AS.setLp (s : AS) (l : Nat) (x : Option (Loop × (Nat → Option AV))) : AS := { s with lp := fun k => if k = l then x else s.lp k }
def updT : (Nat → Option AV) → List (Tmp × AV) → (Nat → Option AV)
  | tm, [] => tm
  | tm, (p, x) :: l => updT (fun t => if t = p then some x else tm t) l
section
variable {C : Cx} {E : Env} {G : Gh} {s : AS} {a : Act} {w : World}
theorem noCells_loop (r : Loop) : NoCells (.loop r) := fun _ _ _ h => by cases h
theorem Rel.loop_apart (h : Rel C E G s a w) {l : Nat} {q : Loop × (Nat → Option AV)} (hl : s.lp l = some q) : (∀ d ∈ a.defers, d ≠ { target := .collected l, args := #[] }) ∧ l ∉ E.mks := by
  have h1 := (h.lp l q hl).2.1
  refine ⟨fun d hd e => ?_, fun hm => ?_⟩
  · obtain ⟨D, e2, k⟩ := h.df.1 d hd
    rw [e] at e2
    cases e2
    have := h1.symm.trans k.2.1
    cases this
  · have := h1.symm.trans (h.mks l hm).2.1
    cases this
theorem Rel.setLoop (h : Rel C E G s a w) {l : Nat} {rc : Loop} {tm : Nat → Option AV} (hl : s.lp l = some (rc, tm)) (rc' : Loop) (ht : rc'.tmps = rc.tmps) : Rel C E G (s.setLp l (some (rc', tm))) a (w.putObj l (.loop rc')) := by
  obtain ⟨h1, h2⟩ := h.loop_apart hl
  refine (h.putObj (h.lp l _ hl) (fun _ _ e => by cases e) (noCells_loop rc') h1 h2 (fun k => if k = l then some (rc', tm) else s.lp k) (fun k r hk => ?_)).1
  by_cases e : k = l
  · subst e
    rw [if_pos rfl] at hk
    cases hk
    exact .inl ⟨rfl, rfl, rc, hl, ht.symm⟩
  · rw [if_neg e] at hk
    exact .inr ⟨e, hk⟩
theorem Rel.dropLoop (h : Rel C E G s a w) {l : Nat} {q : Loop × (Nat → Option AV)} (hl : s.lp l = some q) (rc' : Loop) : Rel C E G (s.setLp l none) a (w.putObj l (.loop rc')) := by
  obtain ⟨h1, h2⟩ := h.loop_apart hl
  refine (h.putObj (h.lp l _ hl) (fun _ _ e => by cases e) (noCells_loop rc') h1 h2 (fun k => if k = l then none else s.lp k) (fun k r hk => ?_)).1
  by_cases e : k = l
  · rw [if_pos e] at hk; cases hk
  · rw [if_neg e] at hk
    exact .inr ⟨e, hk⟩
theorem updT_ok : ∀ (l : List (Tmp × AV)) (us : List (Tmp × Value)) (tm : Nat → Option AV) (tmps : Array Value), l.map (·.1) = us.map (·.1) → (∀ p ∈ us, p.1 < tmps.size) → (∀ (i : Nat) (x : Tmp × AV) (u : Tmp × Value), l[i]? = some x → us[i]? = some u → V G w x.2 u.2) →
    (∀ (t : Nat) (x : AV), tm t = some x → ∃ v, slot tmps t = some v ∧ V G w x v) →
    (us.foldl (fun tmps (q : Tmp × Value) => tmps.setIfInBounds q.1 q.2) tmps).size = tmps.size ∧ ∀ (t : Nat) (x : AV), updT tm l t = some x → ∃ v, slot (us.foldl (fun tmps (q : Tmp × Value) => tmps.setIfInBounds q.1 q.2) tmps) t = some v ∧ V G w x v
  | [], [], tm, tmps, _, _, _, ht => ⟨rfl, ht⟩
  | [], _ :: _, _, _, h, _, _, _ => by cases h
  | _ :: _, [], _, _, h, _, _, _ => by cases h
  | (p, x) :: l, (p', u) :: us, tm, tmps, h, hb, hV, ht => by
    simp only [List.map_cons, List.cons.injEq] at h
    obtain ⟨rfl, h⟩ := h
    have hp : p < tmps.size := hb (p, u) List.mem_cons_self
    obtain ⟨h1, h2⟩ := updT_ok l us (fun t => if t = p then some x else tm t) (tmps.setIfInBounds p u) h (fun q hq => by simpa using hb q (List.mem_cons_of_mem _ hq)) (fun i y v hy hv => hV (i + 1) y v (by simpa using hy) (by simpa using hv)) (fun t y hy => by
      have hy : (if t = p then some x else tm t) = some y := hy
      by_cases e : t = p
      · subst e
        rw [if_pos rfl] at hy
        cases hy
        exact ⟨u, slot_set hp, hV 0 (t, x) (t, u) rfl rfl⟩
      · rw [if_neg e] at hy
        obtain ⟨v, e1, e2⟩ := ht t y hy
        exact ⟨v, by rw [slot_ne e]; exact e1, e2⟩)
    exact ⟨by rw [List.foldl_cons, h1]; simp, h2⟩
end

def YCall (C : Cx) (l : Nat) (args : List AV) (s : AS) (K : Bool → AS → Prop) : Prop :=
  ∀ (E : Env) (G : Gh) (a : Act) (w : World) (vs : Array Value), Rel C E G s a w → vs.size = args.length → (∀ (i : Nat) (x : AV) (v : Value), args[i]? = some x → vs[i]? = some v → V G w x v) →
    ∃ f tmps assign body, (Instr.yield l vs).run C.P w = .ok (.round l f tmps assign body) w ∧
      ∀ r, RoundIn (Fr r) 0 C.P l f tmps assign body w fun e w' => ∃ b s2 G', e = .returned (.bool b) ∧ K b s2 ∧ Rel C E G' (s2.fr s.N s.tm) a w'
/-- How a round's body may end. -/
def yEnd (rc : Loop) (l : Nat) (tm0 : Nat → Option AV) (K : Bool → AS → Prop) (e : Exit) (s2 : AS) : Prop :=
  s2.lp l = some ({ rc with state := .busy }, tm0) ∧ match e with
    | .normal => K true (s2.setLp l (some ({ rc with state := .ready, pending := none }, tm0)))
    | .ret => K false (s2.setLp l (some ({ rc with state := .done, pending := some .ret }, tm0)))
    | .exit id => K false (s2.setLp l (some ({ rc with state := .done, pending := some (.exit id) }, tm0)))
    | .goto t => K false (s2.setLp l (some ({ rc with state := .done, pending := some (.goto t) }, tm0)))
    | _ => False
theorem YCall.mk {C : Cx} {s : AS} {l : Nat} {rc : Loop} {tm0 : Nat → Option AV} {args : List AV} {K : Bool → AS → Prop} (hl : s.lp l = some (rc, tm0)) (hst : rc.state = .ready) (hps : rc.params.size = args.length) (hpb : ∀ p ∈ rc.params.toList, p < rc.tmps.size)
    (h : ACode C (some l) rc.assign (s.fr rc.tmps.size (updT tm0 (rc.params.toList.zip args))) (fun e s1 => e = .normal ∧ s1.lp l = some (rc, tm0) ∧ ACode C (some l) rc.body (s1.setLp l (some ({ rc with state := .busy }, tm0))) (yEnd rc l tm0 K))) : YCall C l args s K := by
  intro E G a w vs hR hlen hV
  have hrec := (hR.lp l _ hl).2.1
  refine ⟨_, _, _, _, run_yield hrec (by rw [hlen]; exact hps.symm), fun r => ?_⟩
  have hlz : (rc.params.zip vs).toList = rc.params.toList.zip vs.toList := Array.toList_zip
  have hfold : ∀ t0 : Array Value, (rc.params.zip vs).foldl (fun tmps (q : Tmp × Value) => tmps.setIfInBounds q.1 q.2) t0 = (rc.params.toList.zip vs.toList).foldl (fun tmps (q : Tmp × Value) => tmps.setIfInBounds q.1 q.2) t0 := by
    intro t0; rw [← hlz, Array.foldl_toList]
  obtain ⟨hu1, hu2⟩ := updT_ok (G := G) (w := w) (rc.params.toList.zip args) (rc.params.toList.zip vs.toList) tm0 rc.tmps (by
      rw [List.map_fst_zip (by simp [hps]), List.map_fst_zip (by simp [hps, hlen])]) (fun p hp => hpb p.1 (List.of_mem_zip hp).1) (fun i x u hx hu => by
      rw [List.getElem?_zip_eq_some] at hx hu
      exact hV i x.2 u.2 hx.2 (by simpa using hu.2)) (fun t x hx => hR.ls l _ t x hl hx)
  have hinit := hR.other (N := rc.tmps.size) (tm := updT tm0 (rc.params.toList.zip args)) (tmps := (rc.params.zip vs).foldl (fun tmps (q : Tmp × Value) => tmps.setIfInBounds q.1 q.2) rc.tmps) (by rw [hfold]; exact hu1) (fun t x hx => by rw [hfold]; exact hu2 t x hx)
  refine roundIn_of_wpIn trivial ?_
  refine wpIn_mono (h _ G _ w hinit) (fun e a1 w1 ⟨s1, G1, ⟨he, hl1, hbody⟩, hrel⟩ => ?_)
  subst he
  have hrec1 := (hrel.lp l _ hl1).2.1
  refine ⟨_, run_beginRound hrec1 hst, ?_⟩
  have hrel2 := hrel.setLoop hl1 { rc with state := .busy } rfl
  refine wpIn_mono (hbody _ G1 a1 _ hrel2) (fun e a3 w3 ⟨s3, G3, ⟨hl3, hy⟩, hrel3⟩ => ?_)
  have hrec3 := (hrel3.lp l _ hl3).2.1
  cases e with
  | normal => exact ⟨_, _, run_endRound none hrec3, _, _, G3, rfl, hy, hR.back (hrel3.setLoop hl3 { rc with state := .ready, pending := none } rfl)⟩
  | ret => exact ⟨_, _, run_endRound (some .ret) hrec3, _, _, G3, rfl, hy, hR.back (hrel3.setLoop hl3 { rc with state := .done, pending := some .ret } rfl)⟩
  | exit id => exact ⟨_, _, run_endRound (some (.exit id)) hrec3, _, _, G3, rfl, hy, hR.back (hrel3.setLoop hl3 { rc with state := .done, pending := some (.exit id) } rfl)⟩
  | goto t => exact ⟨_, _, run_endRound (some (.goto t)) hrec3, _, _, G3, rfl, hy, hR.back (hrel3.setLoop hl3 { rc with state := .done, pending := some (.goto t) } rfl)⟩
  | panic ch => exact hy.elim
  | outgrown => exact hy.elim

def afterRange (C : Cx) (r : Option Nat) (l : Nat) (s : AS) (Q : Exit → AS → Prop) (s2 : AS) : Prop :=
  ∃ rc2, s2.lp l = some (rc2, s.tm) ∧ rc2.state ≠ .busy ∧ match rc2.pending with
    | none => Q .normal ((s2.setLp l none).fr s.N s.tm)
    | some c => ACode C r c ((s2.setLp l none).fr s.N s.tm) Q
section
variable {C : Cx} {E : Env} {G : Gh} {s : AS} {a : Act} {w : World}
theorem Rel.lp_fresh (h : Rel C E G s a w) {l : Nat} (hl : w.heap.size ≤ l) : s.lp l = none := by
  cases hx : s.lp l with
  | none => rfl
  | some q =>
    have h1 := (h.lp _ _ hx).2.1
    have h2 := (Array.getElem?_eq_some_iff.1 h1).1
    omega
theorem Rel.addLoop (h : Rel C E G s a w) {l : Nat} {rc : Loop} (hl : Stays E.w0.heap.size w l (.loop rc)) (ht : rc.tmps = a.tmps) : Rel C E G (s.setLp l (some (rc, s.tm))) a w :=
  { h with
    lp := fun k r hk => by
      have hk : (if k = l then some (rc, s.tm) else s.lp k) = some r := hk
      by_cases e : k = l
      · subst e; rw [if_pos rfl] at hk; cases hk; exact hl
      · rw [if_neg e] at hk; exact h.lp k r hk
    ls := fun k r t x hk hx => by
      have hk : (if k = l then some (rc, s.tm) else s.lp k) = some r := hk
      by_cases e : k = l
      · subst e; rw [if_pos rfl] at hk; cases hk; rw [ht]; exact h.tm t x hx
      · rw [if_neg e] at hk; exact h.ls k r t x hk hx }
theorem Rel.addMark (h : Rel C E G s a w) {D : Nat} (hD : Stays E.w0.heap.size w D (.deferred (some []))) (hn : ({ target := .collected D, args := #[] } : Deferred) ∉ a.defers) (hm : D ∉ E.mks) :
    Rel C E G s { a with defers := { target := .collected D, args := #[] } :: a.defers } w :=
  { h with
    df := ⟨fun d hd => by
      rcases List.mem_cons.1 hd with rfl | hd
      · exact ⟨D, rfl, hD⟩
      · exact h.df.1 d hd, List.nodup_cons.2 ⟨hn, h.df.2⟩⟩
    dm := fun D' hD' hd => by
      rcases List.mem_cons.1 hd with e | hd
      · cases e; exact hm hD'
      · exact h.dm D' hD' hd }
theorem enters_run {f : FuncId} (h : EntersF C.P f) (args : Array Value) : (callFunc f args).run C.P w = .ok (.enter f args) w := by
  obtain ⟨fn, c, e1, e2, e3⟩ := h
  have e4 : ¬ fn.name = "runtime.NumGoroutine" := by simpa using e2
  simp [callFunc, program, Sem.run, Sem.run_bind, Result.andThen, e1, e3, e4]
theorem range_end {r : Option Nat} {l : Nat} {s2 : AS} {Q : Exit → AS → Prop} (hQ : afterRange C r l s Q s2) {a' : Act} (h2 : Rel C E G (s2.fr s.N s.tm) a' w) :
    ∃ jump w4, (Instr.endLoop l).run C.P w = .ok jump w4 ∧ (match jump with
      | none => (∃ s' G', Q .normal s' ∧ Rel C E G' s' a' w4)
      | some c => c.wpIn (Fr r) 0 C.P (fun e a' w' => ∃ s' G', Q e s' ∧ Rel C E G' s' a' w') a' w4) := by
  obtain ⟨rc2, hl2, hb2, hm⟩ := hQ
  have hl2' : (s2.fr s.N s.tm).lp l = some (rc2, s.tm) := hl2
  have h3 := h2.dropLoop hl2' { rc2 with state := .exhausted }
  have hrun := run_endLoop (P := C.P) (h2.lp l _ hl2').2.1 hb2
  obtain ⟨W4, hW4⟩ : ∃ W, w.putObj l (.loop { rc2 with state := .exhausted }) = W := ⟨_, rfl⟩
  rw [hW4] at h3
  refine ⟨rc2.pending, W4, by rw [← hW4]; exact hrun, ?_⟩
  clear hrun hW4
  cases hp : rc2.pending with
  | none =>
    rw [hp] at hm
    exact ⟨_, G, hm, h3⟩
  | some c =>
    rw [hp] at hm
    exact hm E G a' _ h3
theorem range_args (h : Rel C E G s a w) {G' : Gh} {w' : World} (mo : Mo G w G' w') {g : Operand} {gf : FuncId} {cap : List AV} (hg : evalO s g = some (.fn (.func gf) [] cap)) (l : Nat) :
    ∃ lb : Array Value, a.eval g = .func (.func gf) #[] lb ∧ (#[Value.func (.yield l) #[] #[]] ++ lb).size = (AV.fn (.yield l) [] [] :: cap).length ∧
      ∀ (i : Nat) (x : AV) (v : Value), (AV.fn (.yield l) [] [] :: cap)[i]? = some x → (#[Value.func (.yield l) #[] #[]] ++ lb)[i]? = some v → V G' w' x v := by
  have hV := (h.eval hg).mono mo
  generalize a.eval g = v at hV
  cases hV with
  | @fn _ _ _ vs us h1 h2 h3 h4 =>
    have : vs = #[] := Array.eq_empty_of_size_eq_zero h1.symm
    subst this
    refine ⟨us, rfl, by simp [h2]; omega, fun i x v hx hv => ?_⟩
    cases i with
    | zero =>
      rw [Array.getElem?_append_left (by simp)] at hv
      simp at hx hv
      subst hx; subst hv
      exact .fn rfl rfl (fun i c hc => by simp at hc) (fun i c hc => by simp at hc)
    | succ i =>
      have hv' : us[i]? = some v := by
        rw [Array.getElem?_append_right (by simp)] at hv
        simpa using hv
      exact h4 i x (by simpa using hx) v hv'
theorem ACode.range {g : Operand} {ps : Array Tmp} {assign body : Code} {Q : Exit → AS → Prop} {gf : FuncId} {cap : List AV} (hg : evalO s g = some (.fn (.func gf) [] cap)) (hgf : EntersF C.P gf)
    (h : ∀ (l : Nat) (rc : Loop), s.lp l = none → rc.state = .ready → rc.pending = none → rc.params = ps → rc.assign = assign → rc.body = body → rc.tmps.size = s.N →
      JCall C gf (.fn (.yield l) [] [] :: cap) (s.setLp l (some (rc, s.tm))) (fun _ s2 => afterRange C none l s Q s2)) : ACode C none (.rangeFunc g ps assign body) s Q := by
  intro E G a w hR
  obtain ⟨lb, hlb, _, _⟩ := range_args hR (Mo.refl G w) hg 0
  refine wpIn_rangeFunc ?_
  intro fn hfn
  obtain ⟨rc, hrc⟩ : ∃ rc : Loop, rc = { state := .ready, pending := none, fn, tmps := a.tmps, params := ps, assign, body, defers := w.heap.size } := ⟨_, rfl⟩
  obtain ⟨W1, hW1⟩ : ∃ W1, (w.alloc (.deferred (some []))).alloc (.loop rc) = W1 := ⟨_, rfl⟩
  have s1 : W1.heap.size = w.heap.size + 2 := by rw [← hW1]; simp
  have hL1 : W1.heap[w.heap.size + 1]? = some (.loop rc) := by
    rw [← hW1]; have := World.alloc_heap_new (w.alloc (.deferred (some []))) (.loop rc); rwa [World.size_alloc] at this
  have hK1 : W1.heap[w.heap.size]? = some (.deferred (some [])) := by
    rw [← hW1]; exact (Below.heap_alloc _ _ _ (by simp)).trans (World.alloc_heap_new w _)
  have hB1 : Below w.heap.size w W1 := by rw [← hW1]; exact ((Below.refl _ w).alloc (Nat.le_refl _) _).alloc (by simp) _
  have hgr : Rel C E G s a W1 := hR.grow (m' := G.m) hB1 (fun _ _ => rfl) (fun b hb => hR.mz b (by omega))
  have hmo : Mo G w G W1 := hR.mo_of (m' := G.m) hB1 (fun _ _ => rfl)
  have hbs := hR.be.size
  have hmk := hgr.addMark (D := w.heap.size) ⟨hbs, hK1, fun _ _ _ e => by cases e⟩ (fun hd => by
    obtain ⟨D', e, k⟩ := hR.df.1 _ hd
    cases e
    have := (Array.getElem?_eq_some_iff.1 k.2.1).1
    omega) (fun hd => by
    have := (Array.getElem?_eq_some_iff.1 (hR.mks _ hd).2.1).1
    omega)
  have hlp := hmk.addLoop (l := w.heap.size + 1) (rc := rc) ⟨by omega, hL1, noCells_loop rc⟩ (by rw [hrc])
  obtain ⟨lb', hlb', hsz, hV⟩ := range_args hR hmo hg (w.heap.size + 1)
  rw [hlb] at hlb'
  cases hlb'
  have hj := h (w.heap.size + 1) rc (hR.lp_fresh (by omega)) (by rw [hrc]) (by rw [hrc]) (by rw [hrc]) (by rw [hrc]) (by rw [hrc]) (by rw [hrc]; exact hR.N)
  refine ⟨w.heap.size + 1, [{ target := .collected w.heap.size, args := #[] }], W1, { target := .fn (.func gf) lb, args := #[.func (.yield (w.heap.size + 1)) #[] #[]] }, W1, gf,
    #[.func (.yield (w.heap.size + 1)) #[] #[]] ++ lb, W1, ?_, ?_, fun _ _ => trivial, ?_, fun h => (nomatch h), ?_⟩
  · rw [← hW1, hrc]; exact run_enterLoop_outer _ _ _ _ _
  · simp only [resolve, hlb]
    simp [go_sem]
  · simp [invoke, go_sem, enters_run hgf]
  refine callsIn_Fr ((hj.2 E G _ W1 _ hlp hsz hV).mono ?_)
  rintro e w3 ⟨v, res, s2, G', rfl, hQ, hrel, _⟩
  obtain ⟨jump, w4, e1, e2⟩ := range_end hQ hrel
  refine ⟨jump, w4, e1, ?_⟩
  cases jump <;> exact e2
theorem ACode.range' {l0 : Nat} {q0 : Loop × (Nat → Option AV)} (hl0 : s.lp l0 = some q0) {g : Operand} {ps : Array Tmp} {assign body : Code} {Q : Exit → AS → Prop} {gf : FuncId} {cap : List AV} (hg : evalO s g = some (.fn (.func gf) [] cap)) (hgf : EntersF C.P gf)
    (h : ∀ (l : Nat) (rc : Loop), l ≠ l0 → s.lp l = none → rc.state = .ready → rc.pending = none → rc.params = ps → rc.assign = assign → rc.body = body → rc.tmps.size = s.N →
      JCall C gf (.fn (.yield l) [] [] :: cap) (s.setLp l (some (rc, s.tm))) (fun _ s2 => afterRange C (some l0) l s Q s2)) : ACode C (some l0) (.rangeFunc g ps assign body) s Q := by
  intro E G a w hR
  obtain ⟨lb, hlb, _, _⟩ := range_args hR (Mo.refl G w) hg 0
  have hrec0 := (hR.lp l0 _ hl0).2.1
  refine wpIn_rangeFunc ?_
  intro fn hfn
  obtain ⟨rc, hrc⟩ : ∃ rc : Loop, rc = { state := .ready, pending := none, fn, tmps := a.tmps, params := ps, assign, body, defers := q0.1.defers } := ⟨_, rfl⟩
  obtain ⟨W1, hW1⟩ : ∃ W1, w.alloc (.loop rc) = W1 := ⟨_, rfl⟩
  have s1 : W1.heap.size = w.heap.size + 1 := by rw [← hW1]; simp
  have hL1 : W1.heap[w.heap.size]? = some (.loop rc) := by rw [← hW1]; exact World.alloc_heap_new w _
  have hB1 : Below w.heap.size w W1 := by rw [← hW1]; exact (Below.refl _ w).alloc (Nat.le_refl _) _
  have hgr : Rel C E G s a W1 := hR.grow (m' := G.m) hB1 (fun _ _ => rfl) (fun b hb => hR.mz b (by omega))
  have hmo : Mo G w G W1 := hR.mo_of (m' := G.m) hB1 (fun _ _ => rfl)
  have hbs := hR.be.size
  have hlp := hgr.addLoop (l := w.heap.size) (rc := rc) ⟨by omega, hL1, noCells_loop rc⟩ (by rw [hrc])
  obtain ⟨lb', hlb', hsz, hV⟩ := range_args hR hmo hg w.heap.size
  rw [hlb] at hlb'
  cases hlb'
  have hne : w.heap.size ≠ l0 := by
    have := (Array.getElem?_eq_some_iff.1 hrec0).1
    omega
  have hj := h w.heap.size rc hne (hR.lp_fresh (Nat.le_refl _)) (by rw [hrc]) (by rw [hrc]) (by rw [hrc]) (by rw [hrc]) (by rw [hrc]) (by rw [hrc]; exact hR.N)
  refine ⟨w.heap.size, [], W1, { target := .fn (.func gf) lb, args := #[.func (.yield w.heap.size) #[] #[]] }, W1, gf,
    #[.func (.yield w.heap.size) #[] #[]] ++ lb, W1, ?_, ?_, fun _ _ => trivial, ?_, fun h => (nomatch h), ?_⟩
  · rw [← hW1, hrc]; exact run_enterLoop_inner hrec0 _ _ _ _ _
  · simp only [resolve, hlb]
    simp [go_sem]
  · simp [invoke, go_sem, enters_run hgf]
  refine callsIn_Fr ((hj.2 E G _ W1 _ hlp hsz hV).mono ?_)
  rintro e w3 ⟨v, res, s2, G', rfl, hQ, hrel, _⟩
  obtain ⟨jump, w4, e1, e2⟩ := range_end hQ hrel
  refine ⟨jump, w4, e1, ?_⟩
  cases jump <;> exact e2
end

section
variable {C : Cx} {E : Env} {G : Gh} {s : AS} {a : Act} {w : World} {ops : Array Oper} {o : Oper}
theorem argsV (h : Rel C E G s a w) {args : Array Operand} {xs : List AV} (hargs : evalL s args.toList = some xs) : (args.map a.eval).size = xs.length ∧ ∀ (i : Nat) (x : AV) (v : Value), xs[i]? = some x → (args.map a.eval)[i]? = some v → V G w x v := by
  obtain ⟨k1, k2⟩ := evalL_ok h hargs
  refine ⟨by simpa using k1.symm, fun i x v hx hv => ?_⟩
  rw [Array.getElem?_map] at hv
  obtain ⟨y, hy, rfl⟩ := Option.map_eq_some_iff.1 hv
  exact k2 i x y hx (by simpa using hy)
/-- A call in the caller's memory, as a step. -/
theorem joint_ok (h : Rel C E G s a w) {r : Option Nat} {Q : Exit → Act → World → Prop} {i : Nat} (hi : ops[i]? = some o) (hg : guardOf ops s o = some true) (hd : dstOk s o = true) {c : Call} {fo : Operand} {g : FuncId} {cap xs : List AV} {L : AV → AS → Prop}
    (ho : o.op = .call c) (hfo : c.callee = .value fo) (hev : evalO s fo = some (.fn (.func g) [] cap)) (hargs : evalL s c.args.toList = some xs) (hc : JCall C g (xs ++ cap) s L) {K : Act → World → Prop}
    (hK : ∀ res s2 G' a' w', L res s2 → Rel C E G' ((s2.fr s.N s.tm).put o.dst res) a' w' → K a' w') : wpOpIn (Fr r) 0 C.P ops Q i K a w := by
  unfold wpOpIn
  rw [hi]
  dsimp only
  rw [if_pos (guard_ok h hg)]
  refine ⟨fun _ _ => trivial, ?_⟩
  rw [Oper.semAt_eq _ _ _ (by rw [ho]; rintro c' e; cases e)]
  have hfV := h.eval hev
  obtain ⟨us, hf, hul, huV⟩ : ∃ us : Array Value, a.eval fo = .func (.func g) #[] us ∧ cap.length = us.size ∧ ∀ (i : Nat) (x : AV) (v : Value), cap[i]? = some x → us[i]? = some v → V G w x v := by
    generalize a.eval fo = v at hfV
    cases hfV with
    | @fn _ _ _ vs us h1 h2 _ h4 =>
      have : vs = #[] := Array.eq_empty_of_size_eq_zero h1.symm
      subst this
      exact ⟨us, rfl, h2, fun i x v hx hv => h4 i x hx v hv⟩
  obtain ⟨fn, cd, e1, e2, e3⟩ := hc.1
  obtain ⟨hs1, hs2⟩ := argsV h hargs
  obtain ⟨callee, args, ts⟩ := c
  dsimp only at hfo hargs hs1 hs2
  subst hfo
  have hrun : (execOp a.eval o).run C.P w = .ok (.enter g (args.map a.eval ++ us)) w := by
    unfold execOp
    rw [ho]
    simp only [resolve, Deferred.ofValue, hf, Sem.run_bind, Sem.run_pure, Result.andThen, invoke, callFunc, program, Sem.run, e1, e2, e3]
    simp
  rw [hrun]
  refine ⟨(fun hdep => by cases hdep), callsIn_Fr ((hc.2 E G a w _ h (by simp [← hs1, hul]) (fun i x v hx hv => ?_)).mono ?_)⟩
  · rcases Nat.lt_or_ge i xs.length with h1 | h1
    · rw [List.getElem?_append_left h1] at hx
      rw [Array.getElem?_append_left (by omega)] at hv
      exact hs2 i x v hx hv
    · rw [List.getElem?_append_right h1] at hx
      rw [Array.getElem?_append_right (by omega), hs1] at hv
      exact huV _ x v hx hv
  · rintro e w' ⟨v, res, s2, G', rfl, hL, hrel, hV⟩
    exact hK res s2 G' _ w' hL (hrel.put (d := o.dst) (fun t ht => dstOk_spec hd t ht) hV)
/-- A call of whose result only so much is told, as a step. -/
theorem callQ_step (h : Rel C E G s a w) {r : Option Nat} {Q : Exit → Act → World → Prop} {i : Nat} (hi : ops[i]? = some o) (hg : guardOf ops s o = some true) (hd : dstOk s o = true) {c : Call} {fo : Operand} {g : FuncId} {xs : List AV} {Qr : AV → Prop} {own : Option (Nat × TypeId)}
    (ho : o.op = .call c) (hfo : c.callee = .value fo) (hev : evalO s fo = some (.fn (.func g) [] [])) (hargs : evalL s c.args.toList = some xs) (hp : ∀ x ∈ xs, Pu (er x)) (hc : ACallQ C g (xs.map er) Qr own) {K : Act → World → Prop}
    (hK : ∀ res G' a' w', Qr res → Rel C E G' (callSt s o.dst res own) a' w' → K a' w') : wpOpIn (Fr r) 0 C.P ops Q i K a w := by
  unfold wpOpIn
  rw [hi]
  dsimp only
  rw [if_pos (guard_ok h hg)]
  refine ⟨fun _ _ => trivial, ?_⟩
  rw [Oper.semAt_eq _ _ _ (by rw [ho]; rintro c' e; cases e)]
  have hf : a.eval fo = .func (.func g) #[] #[] := by
    have := h.eval hev
    generalize a.eval fo = v at this
    cases this with
    | fn h1 h2 _ _ =>
      congr 1
      · exact (Array.eq_empty_of_size_eq_zero h1.symm)
      · exact (Array.eq_empty_of_size_eq_zero h2.symm)
  obtain ⟨fn, cd, e1, e2, e3⟩ := hc.1
  obtain ⟨callee, args, ts⟩ := c
  dsimp only at hfo hargs
  subst hfo
  have hrun : (execOp a.eval o).run C.P w = .ok (.enter g (args.map a.eval)) w := by
    unfold execOp
    rw [ho]
    simp only [resolve, Deferred.ofValue, hf, Sem.run_bind, Sem.run_pure, Result.andThen, invoke, callFunc, program, Sem.run, e1, e2, e3]
    simp
  rw [hrun]
  obtain ⟨k1, k2⟩ := evalL_ok h hargs
  have hcall := call_okQ h (dstOk_spec hd) (vs := args.map a.eval) (xs := xs) (by simpa using k1.symm) (fun i x v hx hv => by
    rw [Array.getElem?_map] at hv
    obtain ⟨y, hy, rfl⟩ := Option.map_eq_some_iff.1 hv
    exact k2 i x y hx (by simpa using hy)) hp hc
  refine ⟨(fun hdep => by cases hdep), callsIn_Fr (hcall.mono ?_)⟩
  rintro e w' ⟨v, res, hq, rfl, G', hrel⟩
  exact hK res _ _ _ hq hrel
theorem yield_ok (h : Rel C E G s a w) {r : Option Nat} {Q : Exit → Act → World → Prop} {i : Nat} (hi : ops[i]? = some o) (hg : guardOf ops s o = some true) (hd : dstOk s o = true) {c : Call} {fo : Operand} {l : Nat} {xs : List AV} {L : Bool → AS → Prop}
    (ho : o.op = .call c) (hfo : c.callee = .value fo) (hev : evalO s fo = some (.fn (.yield l) [] [])) (hargs : evalL s c.args.toList = some xs) (hc : YCall C l xs s L) {K : Act → World → Prop}
    (hK : ∀ b s2 G' a' w', L b s2 → Rel C E G' ((s2.fr s.N s.tm).put o.dst (.bool b)) a' w' → K a' w') : wpOpIn (Fr r) 0 C.P ops Q i K a w := by
  unfold wpOpIn
  rw [hi]
  dsimp only
  rw [if_pos (guard_ok h hg)]
  refine ⟨fun _ _ => trivial, ?_⟩
  rw [Oper.semAt_eq _ _ _ (by rw [ho]; rintro c' e; cases e)]
  have hf : a.eval fo = .func (.yield l) #[] #[] := by
    have := h.eval hev
    generalize a.eval fo = v at this
    cases this with
    | fn h1 h2 _ _ =>
      congr 1
      · exact (Array.eq_empty_of_size_eq_zero h1.symm)
      · exact (Array.eq_empty_of_size_eq_zero h2.symm)
  obtain ⟨hs1, hs2⟩ := argsV h hargs
  obtain ⟨callee, args, ts⟩ := c
  dsimp only at hfo hargs hs1 hs2
  subst hfo
  obtain ⟨f, tmps, assign, body, hy, hround⟩ := hc E G a w _ h hs1 hs2
  have hrun : (execOp a.eval o).run C.P w = .ok (.round l f tmps assign body) w := by
    rw [← hy]
    unfold execOp
    rw [ho]
    simp only [resolve, Deferred.ofValue, hf, Sem.run_bind, Sem.run_pure, Result.andThen, invoke]
    simp
  rw [hrun]
  refine ⟨(fun hdep => by cases hdep), (hround r).mono ?_⟩
  rintro e w' ⟨b, s2, G', rfl, hL, hrel⟩
  exact hK b s2 G' _ w' hL (hrel.put (d := o.dst) (fun t ht => dstOk_spec hd t ht) (.bool b))
end
end Go.Proofs.AL
