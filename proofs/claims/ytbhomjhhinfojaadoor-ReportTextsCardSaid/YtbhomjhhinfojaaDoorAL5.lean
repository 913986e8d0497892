/- What Go functions compute, without memory: an evaluator of the program's own operations, and that it is sound (part 5). -/
import Derived.Test.YtbhomjhhinfojaaDoorAL4
namespace Go.Proofs.AL
open Go Go.RowKit
set_option linter.unusedSimpArgs false
set_option linter.unusedVariables false

/-! ## What is to be shown of a function, as one proposition -/
/-- Where simp goes on, and where it does not. -/
inductive Ph where
  | on | off
def wpO {α : Type} (p : Ph) (o : Option α) (K : Ph → α → Prop) : Prop := ∃ x, o = some x ∧ K .on x
section
variable {α β : Type} {o : Option α} {K : Ph → α → Prop} {c : Prop} [Decidable c]
theorem wpO_some {x : α} : wpO .on (some x) K = K .on x := by simp [wpO]
theorem wpO_somep {p : Ph} {x : α} : wpO p (some x) K = K .on x := by simp [wpO]
theorem wpO_none {p : Ph} : wpO p none K = False := by simp [wpO]
theorem wpO_bind {f : β → Option α} {o : Option β} : wpO .on (o.bind f) K = wpO .on o (fun p x => wpO p (f x) K) := by cases o <;> simp [wpO]
theorem wpO_map {f : β → α} {o : Option β} : wpO .on (o.map f) K = wpO .on o (fun p x => K p (f x)) := by cases o <;> simp [wpO]
theorem wpO_bindp {p : Ph} {f : β → Option α} {o : Option β} : wpO p (o.bind f) K = wpO p o (fun p x => wpO p (f x) K) := by cases o <;> simp [wpO]
theorem wpO_mapp {p : Ph} {f : β → α} {o : Option β} : wpO p (o.map f) K = wpO p o (fun p x => K p (f x)) := by cases o <;> simp [wpO]
theorem wpO_ite : wpO .on (if c then o else none) K = (c ∧ wpO .on o K) := by by_cases h : c <;> simp [h, wpO]
theorem wpO_itn : wpO .on (if c then none else o) K = (¬ c ∧ wpO .on o K) := by by_cases h : c <;> simp [h, wpO]
end
/-- What must be told apart. -/
def split2 (b : Bool) (A B : Ph → Prop) : Prop := (b = true → A .on) ∧ (b = false → B .on)
theorem split2_true {A B : Ph → Prop} : split2 true A B = A .on := by simp [split2]
theorem split2_false {A B : Ph → Prop} : split2 false A B = B .on := by simp [split2]
theorem split2_not {b : Bool} {A B : Ph → Prop} : split2 (!b) A B = split2 b B A := by cases b <;> simp [split2]
theorem split2_i {b : Bool} {A B : Ph → Prop} (h : b = true → A .on) (k : b = false → B .on) : split2 b A B := ⟨h, k⟩

/-- Is it a call of a function's value? -/
def valCall : Op → Option (Operand × List Operand)
  | .call c => match c.callee with
    | .value fo => some (fo, c.args.toList)
    | _ => none
  | _ => none
def jcallP (C : Cx) (g : FuncId) (xs : List AV) (s : AS) (K : Ph → AV → AS → Prop) : Prop := ∃ L, JCall C g xs s L ∧ ∀ res s2, L res s2 → K .on res s2
theorem jcallP_i {C : Cx} {g : FuncId} {xs : List AV} {s : AS} {K : Ph → AV → AS → Prop} {L : AV → AS → Prop} (h : JCall C g xs s L) (k : ∀ res s2, L res s2 → K .on res s2) : jcallP C g xs s K := ⟨L, h, k⟩
/-- Operations in their order; or in any, where what is behind a call in the caller's memory is shown otherwise (E: of the whole region). -/
inductive Md where
  | seq
  | drawn (E : Prop)
def escP : Md → Prop → Prop
  | .seq, X => X
  | .drawn E, _ => E
def callP (j : Md) (C : Cx) (g : FuncId) (xs : List AV) (K : Ph → AV → Option (Nat × TypeId) → Prop) (Z : Prop) : Prop := (∃ res own, ACall C g xs res own ∧ K .on res own) ∨ escP j ((∃ Q own, ACallQ C g xs Q own ∧ ∀ res, Q res → K .on res own) ∨ Z)
theorem callP_q {C : Cx} {g : FuncId} {xs : List AV} {K : Ph → AV → Option (Nat × TypeId) → Prop} {Q : AV → Prop} {own : Option (Nat × TypeId)} (h : ACallQ C g xs Q own) {Z : Prop} (k : ∀ res, Q res → K .on res own) : callP .seq C g xs K Z := .inr (.inl ⟨Q, own, h, k⟩)
/-- .. or in the caller's memory. -/
theorem callP_j {C : Cx} {g : FuncId} {xs : List AV} {K : Ph → AV → Option (Nat × TypeId) → Prop} {Z : Prop} (h : Z) : callP .seq C g xs K Z := .inr (.inr h)
theorem callP_e {C : Cx} {g : FuncId} {xs : List AV} {K : Ph → AV → Option (Nat × TypeId) → Prop} {Z X : Prop} (h : X) : callP (.drawn X) C g xs K Z := .inr h
theorem callP_i {j : Md} {C : Cx} {g : FuncId} {xs : List AV} {K : Ph → AV → Option (Nat × TypeId) → Prop} {res : AV} {own : Option (Nat × TypeId)} {Z : Prop} (h : ACall C g xs res own) (k : K .on res own) : callP j C g xs K Z := .inl ⟨res, own, h, k⟩
def yieldP (C : Cx) (l : Nat) (xs : List AV) (s : AS) (K : Ph → Bool → AS → Prop) : Prop := ∃ L, YCall C l xs s L ∧ ∀ b s2, L b s2 → K .on b s2
theorem yieldP_i {C : Cx} {l : Nat} {xs : List AV} {s : AS} {K : Ph → Bool → AS → Prop} {L : Bool → AS → Prop} (h : YCall C l xs s L) (k : ∀ b s2, L b s2 → K .on b s2) : yieldP C l xs s K := ⟨L, h, k⟩
def AV.isY : AV → Bool
  | .fn (.yield _) _ _ => true
  | _ => false
def callV (j : Md) (C : Cx) (xs : List AV) (s : AS) (d : Option Nat) (K : Ph → Cls → AS → Prop) : AV → Prop
  | .fn (.func g) [] cap => split2 (cap.isEmpty && puL (xs.map er) && !(xs.any AV.isY)) (fun _ => callP j C g (xs.map er) (fun p res own => K p (cls (.call own.isSome)) (callSt s d res own)) (jcallP C g (xs ++ cap) s (fun p res s2 => K p .tok ((s2.fr s.N s.tm).put d res)))) (fun _ => escP j (jcallP C g (xs ++ cap) s (fun p res s2 => K p .tok ((s2.fr s.N s.tm).put d res))))
  | .fn (.yield l) [] [] => escP j (yieldP C l xs s (fun p b s2 => K p .tok ((s2.fr s.N s.tm).put d (.bool b))))
  | _ => False
def wpOp (j : Md) (p : Ph) (C : Cx) (s : AS) (d : Option Nat) (op : Op) (K : Ph → Cls → AS → Prop) : Prop :=
  match valCall op with
  | some (fo, args) => wpO p (evalO s fo) fun p fv => wpO p (evalL s args) fun p xs => callV j C xs s d K fv
  | none => wpO p (ev C.P s op) fun p e => K p (cls (.eff e)) (apEff s d e)
def wpStep (j : Md) (p : Ph) (C : Cx) (ops : Array Oper) (s : AS) (o : Oper) (K : Ph → Cls → AS → Prop) : Prop :=
  wpO p (guardOf ops s o) fun _ g => dstOk s o = true ∧ split2 g (fun p => wpOp j p C s o.dst o.op K) (fun p => K p .comp (s.put o.dst (.tup [])))
def wpOps (j : Md) (p : Ph) (C : Cx) (ops : Array Oper) : List Oper → List Cls → AS → (Ph → List Cls → AS → Prop) → Prop
  | [], cl, s, K => K p cl.reverse s
  | o :: l, cl, s, K => wpStep j p C ops s o fun p c s' => wpOps j p C ops l (c :: cl) s' K
def indepC (ops : Array Oper) (cl : List Cls) (i j : Nat) : Bool :=
  match ops[i]?, ops[j]?, cl[i]?, cl[j]? with
  | some o1, some o2, some l1, some l2 => o1.apart ops o2 && !clash l1 l2
  | _, _, _, _ => false
def psafeC (ops : Array Oper) (cl : List Cls) : Bool :=
  edgesBack ops && (List.range ops.size).all fun j => (List.range j).all fun i => reach ops ops.size j i || indepC ops cl i j
theorem psafeC_eq (ops : Array Oper) (labs : List Lab) : psafeC ops (labs.map cls) = psafe ops labs := by
  unfold psafeC psafe
  congr 1
  congr 1
  funext j
  congr 1
  funext i
  congr 1
  unfold indepC indep
  simp only [List.getElem?_map]
  cases ops[i]? <;> cases ops[j]? <;> cases labs[i]? <;> cases labs[j]? <;> rfl

section
variable {C : Cx} {ops : Array Oper} {s : AS}
theorem valCall_inv {op : Op} {fo : Operand} {args : List Operand} (hv : valCall op = some (fo, args)) : ∃ c : Call, op = .call c ∧ c.callee = .value fo ∧ args = c.args.toList := by
  unfold valCall at hv
  split at hv
  · rename_i c
    split at hv
    · rename_i fo' hfo; cases hv; exact ⟨c, rfl, hfo, rfl⟩
    · cases hv
  · cases hv
theorem wpOp_ok {X : Prop} {o : Oper} {K : Ph → Cls → AS → Prop} (hg : guardOf ops s o = some true) (hd : dstOk s o = true) (h : wpOp (.drawn X) .on C s o.dst o.op K) : (∃ l s', Stp C ops o l s s' ∧ K .on (cls l) s') ∨ X := by
  unfold wpOp at h
  split at h
  · rename_i fo args hv
    obtain ⟨c, hc, hfo, rfl⟩ := valCall_inv hv
    obtain ⟨fv, e1, xs, e2, h⟩ := h
    unfold callV at h
    split at h
    · rename_i g cap
      obtain ⟨h1, h2⟩ := h
      cases hb : (cap.isEmpty && puL (xs.map er) && !(xs.any AV.isY)) with
      | false => exact .inr (h2 hb)
      | true =>
        obtain ⟨res, own, ha, hk⟩ | hX := h1 hb
        rotate_left
        · exact .inr hX
        simp only [Bool.and_eq_true, List.isEmpty_iff] at hb
        obtain ⟨⟨rfl, hp⟩, _⟩ := hb
        exact .inl ⟨_, _, .call hg hd hc hfo e1 e2 (fun x hx => puL_ok hp _ (List.mem_map.2 ⟨x, hx, rfl⟩)) ha, hk⟩
    · exact .inr h
    · exact h.elim
  · obtain ⟨e, he, h⟩ := h
    exact .inl ⟨_, _, .eff hg hd he, h⟩
theorem wpOpJ_ok {E : Env} {G : Gh} {a : Act} {w : World} {r : Option Nat} {Q : Exit → Act → World → Prop} {i : Nat} {o : Oper} {K : Ph → Cls → AS → Prop} (hR : Rel C E G s a w) (ho : ops[i]? = some o) (h : wpStep .seq .on C ops s o K) {next : Act → World → Prop}
    (hK : ∀ c s' G' a' w', K .on c s' → Rel C E G' s' a' w' → next a' w') : wpOpIn (Fr r) 0 C.P ops Q i next a w := by
  obtain ⟨g, hg, hd, ht, hf⟩ := h
  cases g with
  | false => exact Stp.ok hR ho (.skip hg hd) (fun G' a' w' hr => hK _ _ G' a' w' (hf rfl) hr)
  | true =>
    have h := ht rfl
    unfold wpOp at h
    split at h
    · rename_i fo args hv
      obtain ⟨c, hc, hfo, rfl⟩ := valCall_inv hv
      obtain ⟨fv, e1, xs, e2, h⟩ := h
      unfold callV at h
      split at h
      · rename_i g cap
        obtain ⟨h1, h2⟩ := h
        cases hb : (cap.isEmpty && puL (xs.map er) && !(xs.any AV.isY)) with
        | false =>
          obtain ⟨L, hj, hk⟩ := h2 hb
          exact joint_ok hR ho hg hd hc hfo e1 e2 hj (fun res s2 G' a' w' hL hr => hK _ _ G' a' w' (hk res s2 hL) hr)
        | true =>
          simp only [Bool.and_eq_true, List.isEmpty_iff] at hb
          obtain ⟨res, own, ha, hk⟩ | ⟨Qr, own, ha, hk⟩ | ⟨L, hj, hk⟩ := h1 (by simpa using hb)
          · obtain ⟨⟨rfl, hp⟩, _⟩ := hb
            exact Stp.ok hR ho (.call hg hd hc hfo e1 e2 (fun x hx => puL_ok hp _ (List.mem_map.2 ⟨x, hx, rfl⟩)) ha) (fun G' a' w' hr => hK _ _ G' a' w' hk hr)
          · obtain ⟨⟨rfl, hp⟩, _⟩ := hb
            exact callQ_step hR ho hg hd hc hfo e1 e2 (fun x hx => puL_ok hp _ (List.mem_map.2 ⟨x, hx, rfl⟩)) ha (fun res G' a' w' hq hr => hK _ _ G' a' w' (hk res hq) hr)
          · exact joint_ok hR ho hg hd hc hfo e1 e2 hj (fun res s2 G' a' w' hL hr => hK _ _ G' a' w' (hk res s2 hL) hr)
      · obtain ⟨L, hj, hk⟩ := h
        exact yield_ok hR ho hg hd hc hfo e1 e2 hj (fun b s2 G' a' w' hL hr => hK _ _ G' a' w' (hk b s2 hL) hr)
      · exact h.elim
    · obtain ⟨e, he, h⟩ := h
      exact Stp.ok hR ho (.eff hg hd he) (fun G' a' w' hr => hK _ _ G' a' w' h hr)
theorem wpOpsJ_ok {E : Env} {r : Option Nat} {Q : Exit → Act → World → Prop} {K : Ph → List Cls → AS → Prop} (hQ : ∀ cl s' G' a' w', K .on cl s' → Rel C E G' s' a' w' → Q .normal a' w') : ∀ {L : List Oper} {k : Nat} {s : AS} {G : Gh} {a : Act} {w : World} {cl : List Cls}, (∀ j, L[j]? = ops[k + j]?) → Rel C E G s a w → wpOps .seq .on C ops L cl s K →
    wpOpsIn (Fr r) 0 C.P ops Q (List.range' k L.length) a w
  | [], k, s, G, a, w, cl, _, hR, h => hQ _ _ G a w h hR
  | o :: L, k, s, G, a, w, cl, hL, hR, h => by
    rw [List.length_cons, List.range'_succ, wpOpsIn_cons]
    refine wpOpJ_ok hR (by have := hL 0; simpa using this.symm) h (fun c s' G' a' w' hk hr => ?_)
    exact wpOpsJ_ok hQ (k := k + 1) (fun j => by
      have := hL (j + 1)
      simp only [List.getElem?_cons_succ] at this
      rw [this]; congr 1; omega) hr hk
theorem wpOps_ok {X : Prop} {K : Ph → List Cls → AS → Prop} : ∀ {L : List Oper} {k : Nat} {s : AS} {pre : List Lab}, (∀ j, L[j]? = ops[k + j]?) → pre.length = k → wpOps (.drawn X) .on C ops L (pre.map cls).reverse s K →
    (∃ labs s', labs.length = L.length ∧ Der C ops (pre ++ labs) (List.range' k L.length) s s' ∧ K .on ((pre ++ labs).map cls) s') ∨ X
  | [], k, s, pre, _, _, h => .inl ⟨[], s, rfl, .nil s, by simpa [wpOps] using h⟩
  | o :: L, k, s, pre, hL, hp, h => by
    unfold wpOps wpStep at h
    obtain ⟨g, hg, hd, ht, hf⟩ := h
    have key : (∃ l s', Stp C ops o l s s' ∧ wpOps (.drawn X) .on C ops L (cls l :: (pre.map cls).reverse) s' K) ∨ X := by
      cases g with
      | false => exact .inl ⟨.skip, _, .skip hg hd, hf rfl⟩
      | true =>
        obtain ⟨l, s', h1, h2⟩ | hX := wpOp_ok hg hd (ht rfl)
        · exact .inl ⟨l, s', h1, h2⟩
        · exact .inr hX
    obtain ⟨l, s1, h1, h2⟩ | hX := key
    rotate_left
    · exact .inr hX
    have hlen : (pre ++ [l]).length = k + 1 := by simp [hp]
    obtain ⟨labs, s', g1, g2, g3⟩ | hX := wpOps_ok (k := k + 1) (pre := pre ++ [l]) (fun j => by
      have := hL (j + 1)
      simp only [List.getElem?_cons_succ] at this
      rw [this]; congr 1; omega) hlen (by simpa using h2)
    rotate_left
    · exact .inr hX
    refine .inl ⟨l :: labs, s', by simp [g1], ?_, by simpa using g3⟩
    rw [List.length_cons, List.range'_succ]
    refine .cons (o := o) (l := l) (by have := hL 0; simpa using this.symm) ?_ h1 ?_
    · rw [List.getElem?_append_right (by omega)]; simp [hp]
    · rw [List.append_assoc] at g2; exact g2
theorem ACode.reg {r : Option Nat} {id : Nat} {Q : Ph → Exit → AS → Prop} (h : wpOps (.drawn (ACode C r (.region id ops true) s (Q .on))) .on C ops ops.toList [] s (fun p cl s' => psafeC ops cl = true ∧ Q p .normal s')) : ACode C r (.region id ops true) s (Q .on) := by
  obtain ⟨labs, s', g1, g2, g3, g4⟩ | hX := wpOps_ok (k := 0) (pre := []) (fun j => by simp) rfl h
  rotate_left
  · exact hX
  rw [List.nil_append, ← List.range_eq_range', Array.length_toList] at g2
  exact .region labs g2 (fun hd => by rwa [psafeC_eq] at g3) g4
theorem ACode.regJ {r : Option Nat} {id : Nat} {Q : Ph → Exit → AS → Prop} (h : wpOps .seq .on C ops ops.toList [] s (fun p _ s' => Q p .normal s')) : ACode C r (.region id ops false) s (Q .on) := fun E G a w hR => by
  refine wpIn_region ?_
  have := wpOpsJ_ok (C := C) (ops := ops) (E := E) (r := r) (Q := fun e a' w' => ∃ s' G', Q .on e s' ∧ Rel C E G' s' a' w') (fun cl s' G' a' w' hk hr => ⟨s', G', hk, hr⟩) (k := 0) (fun j => by simp) hR h
  rwa [← List.range_eq_range', Array.length_toList] at this
end

/-! ### states written out -/
def look {α : Type} : List (Nat × α) → Nat → Option α
  | [], _ => none
  | (a, v) :: l, t => if a = t then some v else look l t
def nolp : Nat → Option (Loop × (Nat → Option AV)) := fun _ => none
def S (N : Nat) (m : List (Nat × AV)) (ob : List (List AV)) (lv : List (Nat × Tk)) (next : Nat) (lp : Nat → Option (Loop × (Nat → Option AV))) : AS := ⟨N, look m, ob, look lv, next, lp⟩
def rmv (t : Nat) : List (Nat × Tk) → List (Nat × Tk)
  | [] => []
  | (a, e) :: l => if a = t then rmv t l else (a, e) :: rmv t l
theorem look_rmv (t : Nat) : ∀ (l : List (Nat × Tk)) (i : Nat), look (rmv t l) i = if i = t then none else look l i
  | [], i => by simp [rmv, look]
  | (a, e) :: l, i => by
    unfold rmv
    by_cases h : a = t
    · subst h
      rw [if_pos rfl, look_rmv _ l i]
      by_cases h' : i = a
      · simp [h']
      · have h2 : ¬ a = i := fun e => h' e.symm
        simp [h', look, h2]
    · rw [if_neg h]
      unfold look
      by_cases h' : a = i
      · subst h'; simp [h]
      · simp [h', look_rmv t l i]
section
variable {N : Nat} {m : List (Nat × AV)} {ob : List (List AV)} {lv : List (Nat × Tk)} {next d t : Nat} {x : AV} {s : AS} {lp : Nat → Option (Loop × (Nat → Option AV))}
theorem S_put : (S N m ob lv next lp).put (some d) x = S N ((d, x) :: m) ob lv next lp := by
  unfold S AS.put
  simp only [look]
  congr 1
  funext t
  by_cases e : t = d
  · subst e; simp
  · have : d ≠ t := fun h => e h.symm
    simp [e, this]
theorem S_putn : s.put none x = s := rfl
theorem S_deln : s.del none = s := rfl
theorem S_evalO (h : t < 1099511627776) : evalO (S N m ob lv next lp) (.tmp t) = look m t := if_pos h
theorem S_evalG {k : Nat} (h : N ≤ 1099511627776) : evalO (S N m ob lv next lp) (.global k) = look m (1099511627776 + k) := if_pos (Nat.le_trans h (Nat.le_add_right _ _))
theorem S_tm : (S N m ob lv next lp).tm t = look m t := rfl
theorem S_N : (S N m ob lv next lp).N = N := rfl
theorem S_ob : (S N m ob lv next lp).ob = ob := rfl
theorem S_live : (S N m ob lv next lp).live t = look lv t := rfl
theorem S_next : (S N m ob lv next lp).next = next := rfl
theorem S_lp : (S N m ob lv next lp).lp = lp := rfl
theorem evalO_const {v : Value} : evalO s (.const v) = cv v := rfl
theorem evalO_func {f : FuncId} : evalO s (.func f) = some (.fn (.func f) [] []) := rfl
def stob (ob : List (List AV)) (id off : Nat) (cs : List AV) : List (List AV) := match ob[id]? with | some c => ob.set id (splice off cs c) | none => ob
theorem S_new {i : Nat} {cs : List AV} : apEff (S N m ob lv next lp) (some d) (.new i cs) = S N ((d, .ptr ob.length 0) :: m) (ob ++ [cs]) lv next lp := by
  show ({ (S N m ob lv next lp) with ob := ob ++ [cs] } : AS).put (some d) _ = _
  exact S_put (ob := ob ++ [cs])
theorem S_newm {i : Nat} : apEff (S N m ob lv next lp) (some d) (.newm i) = S N ((d, .mp ob.length) :: m) (ob ++ [[.mpo [] []]]) lv next lp := by
  show ({ (S N m ob lv next lp) with ob := ob ++ [[.mpo [] []]] } : AS).put (some d) _ = _
  exact S_put (ob := ob ++ [[.mpo [] []]])
theorem S_st {id off : Nat} {cs : List AV} : apEff (S N m ob lv next lp) none (.st id off cs) = S N m (stob ob id off cs) lv next lp := rfl
theorem S_val : apEff (S N m ob lv next lp) (some d) (.val x) = S N ((d, x) :: m) ob lv next lp := S_put
theorem S_ld {id : Nat} : apEff (S N m ob lv next lp) (some d) (.ld id x) = S N ((d, x) :: m) ob lv next lp := S_put
theorem S_vale {e : Eff} : apEff s none (.val x) = s := rfl
theorem S_tok {e : TypeId} : (S N m ob lv next lp).tok e = S N m ob ((next, .ty e) :: lv) (next + 1) lp := by
  unfold S AS.tok
  congr 1
  funext t
  dsimp only [look]
  by_cases h : t = next
  · subst h; simp
  · have h2 : ¬ next = t := fun e => h e.symm
    simp [h, h2]
theorem S_drop : (S N m ob lv next lp).drop t = S N m ob (rmv t lv) next lp := by
  unfold S AS.drop
  congr 1
  funext u
  dsimp only
  rw [look_rmv]
theorem S_row {e : TypeId} {xs : List (List AV)} : apEff (S N m ob lv next lp) (some d) (.row e xs) = S N ((d, .sl 2 xs) :: m) ob lv next lp := S_put
theorem S_app {e : TypeId} {xs : List (List AV)} : apEff (S N m ob lv next lp) (some d) (.app t e xs) = S N ((d, .sl next xs) :: m) ob ((next, .ty e) :: rmv t lv) (next + 1) lp := by
  show (((S N m ob lv next lp).drop t).tok e).put (some d) _ = _
  rw [S_drop, S_tok, S_put]; rfl
theorem S_ldr {x : AV} : apEff (S N m ob lv next lp) (some d) (.ldr x) = S N ((d, x) :: m) ob lv next lp := S_put
theorem S_setRow {e : TypeId} {xs : List (List AV)} : (S N m ob lv next lp).setRow t e xs = S N m ob ((t, .row e xs) :: rmv t lv) next lp := by
  unfold S AS.setRow
  congr 1
  funext u
  dsimp only [look]
  by_cases h : u = t
  · subst h; simp
  · have h2 : ¬ t = u := fun e => h e.symm
    simp [h, h2, look_rmv]
theorem S_str {e : TypeId} {xs : List (List AV)} : apEff (S N m ob lv next lp) none (.str t e xs) = S N m ob ((t, .row e xs) :: rmv t lv) next lp := S_setRow
theorem S_tokR {e : TypeId} {xs : List (List AV)} : (S N m ob lv next lp).tokR e xs = S N m ob ((next, .row e xs) :: lv) (next + 1) lp := by
  unfold S AS.tokR
  congr 1
  funext t
  dsimp only [look]
  by_cases h : t = next
  · subst h; simp
  · have h2 : ¬ next = t := fun e => h e.symm
    simp [h, h2]
theorem S_appr {e : TypeId} {xs : List (List AV)} : apEff (S N m ob lv next lp) (some d) (.appr t e xs) = S N ((d, .own next xs.length) :: m) ob ((next, .row e xs) :: rmv t lv) (next + 1) lp := by
  show (((S N m ob lv next lp).drop t).tokR e xs).put (some d) _ = _
  rw [S_drop, S_tokR, S_put]; rfl
theorem S_calln {res : AV} : callSt (S N m ob lv next lp) (some d) res none = S N ((d, res) :: m) ob lv next lp := S_put
theorem S_callo {res : AV} {i : Nat} {e : TypeId} : callSt (S N m ob lv next lp) (some d) res (some (i, e)) = S N ((d, withTok i next res) :: m) ob ((next, .ty e) :: lv) (next + 1) lp := by
  show ((S N m ob lv next lp).tok e).put (some d) _ = _
  rw [S_tok, S_put]; rfl
theorem callSt_none {res : AV} : callSt s none res none = s := rfl
end
def argsM : Nat → List AV → List (Nat × AV)
  | _, [] => []
  | k, x :: l => (k, x) :: argsM (k + 1) l
theorem look_argsM : ∀ (l : List AV) (k t : Nat), look (argsM k l) t = if k ≤ t then l[t - k]? else none
  | [], k, t => by simp [argsM, look]
  | x :: l, k, t => by
    unfold argsM look
    by_cases e : k = t
    · subst e; simp
    · rw [if_neg e, look_argsM l (k + 1) t]
      by_cases h : k ≤ t
      · rw [if_pos h, if_pos (by omega), show t - k = (t - (k + 1)) + 1 by omega, List.getElem?_cons_succ]
      · rw [if_neg h, if_neg (by omega)]
theorem start_S {args : List AV} {N : Nat} : start args N = S N (argsM 0 args) [] [] 3 nolp := by
  unfold start S
  congr 1
  funext t
  simp [look_argsM]
def isTy : Tk → Bool
  | .ty _ => true
  | .row _ _ => false
/-- What a state tells less may be taken for it. -/
structure AS.le (s t : AS) : Prop where
  N : s.N = t.N
  tm : ∀ i x, s.tm i = some x → t.tm i = some x
  ob : s.ob = t.ob
  live : ∀ i e, s.live i = some e → (i = 1 ∧ isTy e = true) ∨ t.live i = some e
  next : s.next = t.next
  lp : ∀ l o, s.lp l = some o → t.lp l = some o
theorem Rel.weak {C : Cx} {E : Env} {G : Gh} {s t : AS} {a : Act} {w : World} (h : Rel C E G t a w) (hl : s.le t) : Rel C E G s a w :=
  { h with
    lp := (fun l o hs => h.lp l o (hl.lp l o hs)), ls := (fun l r t x hs hx => h.ls l r t x (hl.lp l r hs) hx), N := h.N.trans hl.N.symm, tm := fun i x hx => h.tm i x (hl.tm i x hx), ol := (by rw [hl.ob]; exact h.ol), ob := (fun i cs b hi hb => h.ob i cs b (by rw [← hl.ob]; exact hi) hb),
    fr := (fun i hi => h.fr i (by rw [← hl.next]; exact hi)), ne := (by rw [hl.next]; exact h.ne), lv := fun i (e : Tk) hi => by
      rcases hl.live i e hi with ⟨rfl, he⟩ | hi
      · cases e with
        | ty e => exact ⟨nilSl, h.t1, .inl rfl⟩
        | row e xs => cases he
      · exact h.lv i e hi, ld := fun i j (e : Tk) (e' : Tk) v v' g hi hj h1 h2 h3 h4 => by
      rcases hl.live i e hi with ⟨rfl, _⟩ | hi
      · rw [h.t1] at h1; cases h1; cases h3
      rcases hl.live j e' hj with ⟨rfl, _⟩ | hj
      · rw [h.t1] at h2; cases h2; cases h4
      exact h.ld i j e e' v v' g hi hj h1 h2 h3 h4 }
theorem ACode.weak {C : Cx} {r : Option Nat} {c : Code} {s t : AS} {Q : Exit → AS → Prop} (hl : s.le t) (h : ACode C r c s Q) : ACode C r c t Q := fun E G a w hr => h E G a w (hr.weak hl)
def lookAll {α : Type} (m : List (Nat × α)) : List (Nat × α) → Prop
  | [] => True
  | (a, v) :: l => look m a = some v ∧ lookAll m l
theorem lookAll_look {α : Type} {m : List (Nat × α)} : ∀ {l : List (Nat × α)}, lookAll m l → ∀ i x, look l i = some x → look m i = some x
  | [], _, i, x, h => by cases h
  | (a, v) :: l, hl, i, x, h => by
    unfold look at h
    split at h
    · rename_i e; cases h; subst e; exact hl.1
    · exact lookAll_look hl.2 i x h
/-- The same of rows that may be appended to; none (token 1) always may. -/
def lookAll1 (m : List (Nat × Tk)) : List (Nat × Tk) → Prop
  | [] => True
  | (a, v) :: l => ((a = 1 ∧ isTy v = true) ∨ look m a = some v) ∧ lookAll1 m l
theorem lookAll1_look {m : List (Nat × Tk)} : ∀ {l : List (Nat × Tk)}, lookAll1 m l → ∀ i x, look l i = some x → (i = 1 ∧ isTy x = true) ∨ look m i = some x
  | [], _, i, x, h => by cases h
  | (a, v) :: l, hl, i, x, h => by
    unfold look at h
    split at h
    · rename_i e; cases h; subst e; exact hl.1
    · exact lookAll1_look hl.2 i x h
theorem S_le {N : Nat} {m m' : List (Nat × AV)} {ob : List (List AV)} {lv lv' : List (Nat × Tk)} {next : Nat} {lp : Nat → Option (Loop × (Nat → Option AV))} (h : lookAll m m') (hl : lookAll1 lv lv') : (S N m' ob lv' next lp).le (S N m ob lv next lp) :=
  ⟨rfl, lookAll_look h, rfl, lookAll1_look hl, rfl, fun _ _ h => h⟩
theorem S_le1 {N : Nat} {m m' : List (Nat × AV)} {ob : List (List AV)} {lv : List (Nat × Tk)} {next : Nat} {lp : Nat → Option (Loop × (Nat → Option AV))} (h : lookAll m m') : (S N m' ob lv next lp).le (S N m ob lv next lp) :=
  ⟨rfl, lookAll_look h, rfl, fun _ _ h => .inr h, rfl, fun _ _ h => h⟩
theorem ACode.rounds {C : Cx} {r : Option Nat} {c : Code} {Q : Exit → AS → Prop} {α : Type} (I : α → AS) (meas : α → Nat) (h : ∀ x, ACode C r c (I x) (thenA (fun s' => ∃ y, meas y < meas x ∧ (I y).le s') Q)) (x : α) : ACode C r (.loop c) (I x) Q := by
  have key : ∀ (n : Nat) (x : α), meas x < n → ALoop C r c n (I x) Q := by
    intro n
    induction n with
    | zero => intro x hx; omega
    | succ n ih =>
      intro x hx
      refine (h x).mono ?_
      intro e s' hs
      cases e with
      | normal =>
        obtain ⟨y, hy, hle⟩ := hs
        have : ∀ (n : Nat) (s : AS), ALoop C r c n s Q → s.le s' → ALoop C r c n s' Q := by
          intro n s hA hle
          cases n with
          | zero => exact hA
          | succ n => exact ACode.weak hle hA
        exact this n _ (ih y (by omega)) hle
      | _ => exact hs
  exact .loop _ (key (meas x + 1) x (by omega))
/-- What a function hands back. -/
def wpOut (C : Cx) (fn : Func) (res : AV) (own : Option (Nat × TypeId)) (s : AS) : Prop :=
  wpO .on (resL C.P s fn.results.toList) fun _ l => res = frzT s (erT (tup1 l)) ∧ pu res = true ∧ (own = none ∨ ownOf C.P s 0 fn.resultTypes.toList l = own)
theorem wpOut_ok {C : Cx} {fn : Func} {res : AV} {own : Option (Nat × TypeId)} {s : AS} (h : wpOut C fn res own s) : Out C fn s res own := by
  obtain ⟨l, hl, hr, hp, ho⟩ := h
  refine ⟨l, hl, hr, pu_ok hp, fun i e hi => ?_⟩
  rcases ho with rfl | rfl
  · cases hi
  obtain ⟨h1, t, xs, h2, h3⟩ := ownOf_ok hi
  rw [Nat.sub_zero] at h2
  refine ⟨t, xs, ?_, h3.imp_right (fun ⟨a, b, c⟩ => ⟨a, b, tyOf_ok c⟩)⟩
  match l, h2 with
  | [x], h2 =>
    have hi : i = 0 := by have := (List.getElem?_eq_some_iff.1 h2).1; simpa using this
    subst hi
    have hx : x = .sl t xs := by simpa using h2
    subst hx
    rfl
  | x :: y :: l, h2 => exact h2
theorem ACall.wp {C : Cx} {f : FuncId} {fn : Func} {c : Code} {args : List AV} {res : AV} {own : Option (Nat × TypeId)} (hf : C.P.funcs[f]? = some fn) (hname : (fn.name == "runtime.NumGoroutine") = false) (hb : fn.body = some c) (hn : decide (args.length ≤ fn.ntmps) = true)
    (h : ACode C none c (S fn.ntmps (argsM 0 args) [] [] 3 nolp) (fun e s' => (e = .ret ∨ e = .normal) ∧ wpOut C fn res own s')) : ACall C f args res own :=
  ACall.mk hf hname hb (of_decide_eq_true hn) (by rw [start_S]; exact h.mono (fun e s' hs => ⟨hs.1, wpOut_ok hs.2⟩))

/-! ### code without rounds at one go -/
def thenP (K : Ph → AS → Prop) (Q : Ph → Exit → AS → Prop) (p : Ph) : Exit → AS → Prop
  | .normal, s => K p s
  | e, s => Q p e s
def inBlockP (id : Nat) (Q : Ph → Exit → AS → Prop) (p : Ph) : Exit → AS → Prop
  | .exit id', s => if id' = id then Q p .normal s else Q p (.exit id') s
  | e, s => Q p e s
def noGotoP (Q : Ph → Exit → AS → Prop) (p : Ph) : Exit → AS → Prop
  | .goto _, _ => False
  | e, s => Q p e s
/-- A scope: a jump goes to its label within. -/
def jumpP (C : Cx) (r : Option Nat) (c : Code) (Q : Ph → Exit → AS → Prop) (l : Nat) (s : AS) : Prop := inScopeA C r c (Q .on) (.goto l) s
def inScopeP (C : Cx) (r : Option Nat) (c : Code) (Q : Ph → Exit → AS → Prop) : Ph → Exit → AS → Prop
  | .on, .goto l, s => jumpP C r c Q l s
  | p, e, s => Q p e s
def loopC (C : Cx) (r : Option Nat) (c : Code) (s : AS) (Q : Ph → Exit → AS → Prop) : Prop := ACode C r (.loop c) s (Q .on)
def otherC (C : Cx) (r : Option Nat) (c : Code) (s : AS) (Q : Ph → Exit → AS → Prop) : Prop := ACode C r c s (Q .on)
/-- The whole of a region, shown otherwise. -/
def escC (C : Cx) (r : Option Nat) (id : Nat) (ops : Array Oper) (s : AS) (Q : Ph → Exit → AS → Prop) : Prop := ACode C r (.region id ops true) s (Q .on)
def wpC (p : Ph) (C : Cx) (r : Option Nat) (c : Code) (s : AS) (Q : Ph → Exit → AS → Prop) : Prop :=
  match c with
  | .skip => Q p .normal s
  | .label _ => Q p .normal s
  | .ret => Q p .ret s
  | .exit id => Q p (.exit id) s
  | .goto l => Q p (.goto l) s
  | .seq x y => wpC p C r x s (thenP (fun p s' => wpC p C r y s' Q) Q)
  | .cond c x y => wpO p (evalO s c) fun _ v => match v with
    | .bool b => split2 b (fun p => wpC p C r x s Q) (fun p => wpC p C r y s Q)
    | _ => False
  | .block id x => wpC p C r x s (inBlockP id Q)
  | .scope x => wpC p C r x s (inScopeP C r x Q)
  | .region id ops true => wpOps (.drawn (escC C r id ops s Q)) p C ops ops.toList [] s (fun p cl s' => psafeC ops cl = true ∧ Q p .normal s')
  | .region _ ops false => wpOps .seq p C ops ops.toList [] s (fun p _ s' => Q p .normal s')
  | .loop c => loopC C r c s Q
  | c => otherC C r c s Q
theorem wpC_ok {C : Cx} {r : Option Nat} : ∀ {c : Code} {s : AS} {Q : Ph → Exit → AS → Prop}, wpC .on C r c s Q → ACode C r c s (Q .on) := by
  intro c
  induction c with
  | skip => intro s Q h; exact .skip h
  | label l => intro s Q h; exact .label h
  | ret => intro s Q h; exact .ret h
  | exit id => intro s Q h; exact .exit h
  | goto l => intro s Q h; exact .goto h
  | seq x y ihx ihy =>
    intro s Q h
    refine .seq ((ihx h).mono (fun e s' h' => ?_))
    cases e with
    | normal => exact ihy h'
    | _ => exact h'
  | cond c x y ihx ihy =>
    intro s Q h
    obtain ⟨v, hv, h⟩ := h
    split at h
    · exact .cond' hv (fun hb => ihx (h.1 hb)) (fun hb => ihy (h.2 hb))
    · exact h.elim
  | block id x ih =>
    intro s Q h
    refine .block ((ih h).mono (fun e s' h' => ?_))
    cases e <;> exact h'
  | scope x ih =>
    intro s Q h
    refine .scope ((ih h).mono (fun e s' h' => ?_))
    cases e <;> exact h'
  | region id ops draw =>
    intro s Q h
    cases draw with
    | true => exact .reg h
    | false => exact .regJ h
  | _ => intro s Q h; exact h
theorem ACode.at {C : Cx} {r : Option Nat} {c : Code} {s : AS} {Q : Exit → AS → Prop} (h : wpC .on C r c s (fun _ => Q)) : ACode C r c s Q := wpC_ok h
def finC (C : Cx) (fn : Func) (res : AV) (own : Option (Nat × TypeId)) : Ph → Exit → AS → Prop
  | .on, .ret, s => wpOut C fn res own s
  | .on, .normal, s => wpOut C fn res own s
  | _, _, _ => False
theorem ACall.wpc {C : Cx} {f : FuncId} {fn : Func} {c : Code} {args : List AV} {res : AV} {own : Option (Nat × TypeId)} (hf : C.P.funcs[f]? = some fn) (hname : (fn.name == "runtime.NumGoroutine") = false) (hb : fn.body = some c) (hn : decide (args.length ≤ fn.ntmps) = true)
    (h : wpC .on C none c (S fn.ntmps (argsM 0 args) [] [] 3 nolp) (finC C fn res own)) : ACall C f args res own := .wp hf hname hb hn ((wpC_ok h).mono (fun e s' h' => by
  cases e with
  | normal => exact ⟨.inr rfl, h'⟩
  | ret => exact ⟨.inl rfl, h'⟩
  | _ => exact h'.elim))

def again {α : Type} (pre : α → Prop) (I : α → AS) (meas : α → Nat) (x : α) (s : AS) : Prop := ∃ y, pre y ∧ meas y < meas x ∧ (I y).le s
theorem again_i {α : Type} {pre : α → Prop} {I : α → AS} {meas : α → Nat} {x : α} {s : AS} (y : α) (h1 : pre y) (h2 : meas y < meas x) (h3 : (I y).le s) : again pre I meas x s := ⟨y, h1, h2, h3⟩
theorem loopC_i {C : Cx} {r : Option Nat} {c : Code} {Q : Ph → Exit → AS → Prop} {s : AS} {α : Type} (pre : α → Prop) (I : α → AS) (meas : α → Nat) (x : α) (hx : pre x) (hs : (I x).le s)
    (h : ∀ x, pre x → wpC .on C r c (I x) (thenP (fun _ s' => again pre I meas x s') Q)) : loopC C r c s Q := by
  refine ACode.weak hs ?_
  refine ACode.rounds (α := { x : α // pre x }) (fun x => I x.1) (fun x => meas x.1) (fun x => (wpC_ok (h x.1 x.2)).mono (fun e s' h' => ?_)) ⟨x, hx⟩
  cases e with
  | normal =>
    obtain ⟨y, h1, h2, h3⟩ := h'
    exact ⟨⟨y, h1⟩, h2, h3⟩
  | _ => exact h'
theorem getElem?_end {α : Type} (js : List α) (z : α) : (js ++ [z])[js.length]? = some z := by simp
theorem getElem?_mid {α : Type} (a b c : List α) (z : α) : (a ++ (b ++ z :: c))[a.length + b.length]? = some z := by
  rw [List.getElem?_append_right (by omega), Nat.add_sub_cancel_left]; simp
/-- What an iterator leaves: all told, or stopped. -/
abbrev Mem := List (List AV) → List (Nat × Tk) → Nat → (Nat → Option (Loop × (Nat → Option AV))) → Prop
def YEnds (k0 : Nat) (rest : List (List AV)) (lp : Nat → Option (Loop × (Nat → Option AV))) (More Stop : Mem) (b : Bool) (s2 : AS) : Prop :=
  ∃ c' rest' lv' nx' lp', c'.length = k0 ∧ s2.ob = c' ++ (rest ++ rest') ∧ s2.live = look lv' ∧ s2.next = nx' ∧ s2.lp = lp' ∧ ((b = true ∧ lp' = lp ∧ More c' lv' nx' lp') ∨ (b = false ∧ Stop c' lv' nx' lp'))
def ItEnds (k0 : Nat) (lp : Nat → Option (Loop × (Nat → Option AV))) (Done Stop : Mem) (s2 : AS) : Prop :=
  ∃ c' rest' lv' nx' lp', c'.length = k0 ∧ s2.ob = c' ++ rest' ∧ s2.live = look lv' ∧ s2.next = nx' ∧ s2.lp = lp' ∧ ((lp' = lp ∧ Done c' lv' nx' lp') ∨ Stop c' lv' nx' lp')
theorem set_end {α : Type} (js : List α) (z x : α) : (js ++ [z]).set js.length x = js ++ [x] := by
  rw [List.set_append_right _ _ (Nat.le_refl _)]; simp
/-- A part of a value. -/
inductive Sub : AV → AV → Prop
  | self (x : AV) : Sub x x
  | agg {cs : List AV} {c y : AV} : c ∈ cs → Sub c y → Sub (.agg cs) y
  | tup {cs : List AV} {c y : AV} : c ∈ cs → Sub c y → Sub (.tup cs) y
  | sl {k : Nat} {xs : List (List AV)} {el : List AV} {c y : AV} : el ∈ xs → c ∈ el → Sub c y → Sub (.sl k xs) y
  | cptr {cs : List AV} {c y : AV} : c ∈ cs → Sub c y → Sub (.cptr cs) y
theorem V.sub {G : Gh} {w : World} {x y : AV} (hs : Sub x y) : ∀ {v : Value}, V G w x v → ∃ v', V G w y v' := by
  induction hs with
  | self x => exact fun h => ⟨_, h⟩
  | agg hc _ ih =>
    intro v h
    obtain ⟨vs, rfl, hl, hv⟩ := h.agg_inv
    obtain ⟨i, hi⟩ := List.mem_iff_getElem?.1 hc
    have hil := (List.getElem?_eq_some_iff.1 hi).1
    exact ih (hv i _ _ hi (List.getElem?_eq_getElem (by omega))).1
  | tup hc _ ih =>
    intro v h
    cases h with
    | tup hl hv =>
      obtain ⟨i, hi⟩ := List.mem_iff_getElem?.1 hc
      have hil := (List.getElem?_eq_some_iff.1 hi).1
      exact ih (hv i _ hi _ (Array.getElem?_eq_getElem (by omega)))
  | sl he hc _ ih =>
    intro v h
    cases h with
    | sl0 _ => simp at he
    | sl f _ _ _ _ _ _ _ _ hV =>
      obtain ⟨j, hj⟩ := List.mem_iff_getElem?.1 he
      obtain ⟨i, hi⟩ := List.mem_iff_getElem?.1 hc
      exact ih (hV j i _ _ hj hi)
  | cptr hc _ ih =>
    intro v h
    cases h with
    | cptr f _ hV =>
      obtain ⟨i, hi⟩ := List.mem_iff_getElem?.1 hc
      exact ih (hV i _ hi)
/-- Rows are no longer than Go lets them be. -/
structure Lens (s : AS) : Prop where
  sub : ∀ (t k : Nat) (x : AV) (xs : List (List AV)), s.tm t = some x → Sub x (.sl k xs) → (xs.length : Int) ≤ 9223372036854775807
  tm : ∀ (t k : Nat) (xs : List (List AV)), s.tm t = some (AV.sl k xs) → (xs.length : Int) ≤ 9223372036854775807
  agg : ∀ (t : Nat) (cs : List AV) (j k : Nat) (xs : List (List AV)), s.tm t = some (AV.agg cs) → cs[j]? = some (AV.sl k xs) → (xs.length : Int) ≤ 9223372036854775807
theorem maxLen_lit {n : Nat} (h : n ≤ maxLen) : (n : Int) ≤ 9223372036854775807 := by
  have h2 : maxLen = 9223372036854775807 := by decide
  rw [h2] at h
  omega
theorem Rel.lens {C : Cx} {E : Env} {G : Gh} {s : AS} {a : Act} {w : World} (h : Rel C E G s a w) : Lens s := by
  refine ⟨fun t k x xs hx hs => ?_, fun t k xs hx => ?_, fun t cs j k xs hx hj => ?_⟩
  · obtain ⟨v, _, hV⟩ := h.tm t _ hx
    obtain ⟨v', hV'⟩ := V.sub hs hV
    obtain ⟨_, _, _, _, hl⟩ := hV'.sl_sizes
    exact maxLen_lit hl
  · obtain ⟨v, _, hV⟩ := h.tm t _ hx
    obtain ⟨_, _, _, _, hl⟩ := hV.sl_sizes
    exact maxLen_lit hl
  · obtain ⟨v, _, hV⟩ := h.tm t _ hx
    obtain ⟨vs, _, hl, hv⟩ := hV.agg_inv
    have hjl := (List.getElem?_eq_some_iff.1 hj).1
    obtain ⟨_, _, _, _, hm⟩ := (hv j _ _ hj (List.getElem?_eq_getElem (by omega))).1.sl_sizes
    exact maxLen_lit hm
theorem loopC_lens {C : Cx} {r : Option Nat} {c : Code} {Q : Ph → Exit → AS → Prop} {s : AS} (h : Lens s → loopC C r c s Q) : loopC C r c s Q := fun E G a w hr => h hr.lens E G a w hr
theorem wpC_lens {C : Cx} {r : Option Nat} {c : Code} {Q : Exit → AS → Prop} {s : AS} (h : Lens s → wpC .on C r c s (fun _ => Q)) : ACode C r c s Q := fun E G a w hr => wpC_ok (h hr.lens) E G a w hr
theorem ACall.wpl {C : Cx} {f : FuncId} {fn : Func} {c : Code} {args : List AV} {res : AV} {own : Option (Nat × TypeId)} (hf : C.P.funcs[f]? = some fn) (hname : (fn.name == "runtime.NumGoroutine") = false) (hb : fn.body = some c) (hn : decide (args.length ≤ fn.ntmps) = true)
    (h : Lens (S fn.ntmps (argsM 0 args) [] [] 3 nolp) → wpC .on C none c (S fn.ntmps (argsM 0 args) [] [] 3 nolp) (finC C fn res own)) : ACall C f args res own := .wp hf hname hb hn (fun E G a w hr => (wpC_ok (h hr.lens)).mono (fun e s' h' => by
  cases e with
  | normal => exact ⟨.inr rfl, h'⟩
  | ret => exact ⟨.inl rfl, h'⟩
  | _ => exact h'.elim) E G a w hr)
theorem wrap64_in {n : Int} (h : -9223372036854775808 ≤ n) (h' : n ≤ 9223372036854775807) : IntKind.i64.wrap n = n := by rw [IntKind.wrap_i64]; omega
theorem wrap64_i {n : Nat} {m : Nat} (h : n < m) (h' : (m : Int) ≤ 9223372036854775807) : IntKind.i64.wrap ((n : Int) + 1) = ((n + 1 : Nat) : Int) := by rw [wrap64_in (by omega) (by omega)]; omega
theorem S_back {s2 : AS} {N : Nat} {m : List (Nat × AV)} {ob : List (List AV)} {lv : List (Nat × Tk)} {nx : Nat} {lp : Nat → Option (Loop × (Nat → Option AV))} (h1 : s2.ob = ob) (h2 : s2.live = look lv) (h3 : s2.next = nx) (h4 : s2.lp = lp) : s2.fr N (look m) = S N m ob lv nx lp := by
  unfold S AS.fr
  rw [← h1, ← h2, ← h3, ← h4]
theorem S_ret {s2 : AS} {N : Nat} {m : List (Nat × AV)} {ob ob0 : List (List AV)} {lv lv0 : List (Nat × Tk)} {nx nx0 : Nat} {lp lp0 : Nat → Option (Loop × (Nat → Option AV))} (h1 : s2.ob = ob) (h2 : s2.live = look lv) (h3 : s2.next = nx) (h4 : s2.lp = lp) : s2.fr N (S N m ob0 lv0 nx0 lp0).tm = S N m ob lv nx lp := S_back h1 h2 h3 h4
def finJ (C : Cx) (fn : Func) (K : AV → AS → Prop) : Ph → Exit → AS → Prop
  | .on, .ret, s => wpO .on (resL C.P s fn.results.toList) fun _ l => K (tup1 l) s
  | .on, .normal, s => wpO .on (resL C.P s fn.results.toList) fun _ l => K (tup1 l) s
  | _, _, _ => False
theorem JCall.wpc {C : Cx} {f : FuncId} {fn : Func} {c : Code} {args : List AV} {K : AV → AS → Prop} {N : Nat} {m : List (Nat × AV)} {ob : List (List AV)} {lv : List (Nat × Tk)} {nx : Nat} {lp : Nat → Option (Loop × (Nat → Option AV))}
    (hf : C.P.funcs[f]? = some fn) (hname : (fn.name == "runtime.NumGoroutine") = false) (hb : fn.body = some c) (hn : decide (args.length ≤ fn.ntmps) = true)
    (h : Lens (S fn.ntmps (argsM 0 args) ob lv nx lp) → wpC .on C none c (S fn.ntmps (argsM 0 args) ob lv nx lp) (finJ C fn K)) : JCall C f args (S N m ob lv nx lp) K := by
  refine JCall.mk hf hname hb (of_decide_eq_true hn) ?_
  have e : (S N m ob lv nx lp).fr fn.ntmps (fun t => args[t]?) = S fn.ntmps (argsM 0 args) ob lv nx lp := by
    unfold S AS.fr
    congr 1
    funext t
    simp [look_argsM]
  rw [e]
  intro E G a w hr
  refine (wpC_ok (h hr.lens)).mono (fun e s' h' => ?_) E G a w hr
  cases e with
  | normal => obtain ⟨l, h1, h2⟩ := h'; exact ⟨.inr rfl, l, h1, h2⟩
  | ret => obtain ⟨l, h1, h2⟩ := h'; exact ⟨.inl rfl, l, h1, h2⟩
  | _ => exact h'.elim
/-! ### for simp -/
section
variable {C : Cx} {r : Option Nat} {s : AS} {Q : Ph → Exit → AS → Prop} {x y : Code} {ops : Array Oper}
theorem wpC_skip : wpC .on C r .skip s Q = Q .on .normal s := rfl
theorem wpC_label {l : Nat} : wpC .on C r (.label l) s Q = Q .on .normal s := rfl
theorem wpC_ret : wpC .on C r .ret s Q = Q .on .ret s := rfl
theorem wpC_exit {id : Nat} : wpC .on C r (.exit id) s Q = Q .on (.exit id) s := rfl
theorem wpC_goto {id : Nat} : wpC .on C r (.goto id) s Q = Q .on (.goto id) s := rfl
theorem wpC_seq : wpC .on C r (.seq x y) s Q = wpC .on C r x s (thenP (fun p s' => wpC p C r y s' Q) Q) := rfl
def cndC (C : Cx) (r : Option Nat) (x y : Code) (s : AS) (Q : Ph → Exit → AS → Prop) : AV → Prop
  | .bool b => split2 b (fun p => wpC p C r x s Q) (fun p => wpC p C r y s Q)
  | _ => False
theorem cndC_bool {b : Bool} : cndC C r x y s Q (.bool b) = split2 b (fun p => wpC p C r x s Q) (fun p => wpC p C r y s Q) := rfl
theorem wpC_cond {c : Operand} : wpC .on C r (.cond c x y) s Q = wpO .on (evalO s c) fun _ v => cndC C r x y s Q v := by
  show wpO .on (evalO s c) _ = _
  congr 1
theorem wpC_block {id : Nat} : wpC .on C r (.block id x) s Q = wpC .on C r x s (inBlockP id Q) := rfl
theorem wpC_scope : wpC .on C r (.scope x) s Q = wpC .on C r x s (inScopeP C r x Q) := rfl
theorem inScopeP_normal {c : Code} : inScopeP C r c Q .on .normal s = Q .on .normal s := rfl
theorem inScopeP_ret {c : Code} : inScopeP C r c Q .on .ret s = Q .on .ret s := rfl
theorem inScopeP_exit {c : Code} {id : Nat} : inScopeP C r c Q .on (.exit id) s = Q .on (.exit id) s := rfl
theorem inScopeP_goto {c : Code} {l : Nat} : inScopeP C r c Q .on (.goto l) s = jumpP C r c Q l s := rfl
theorem jumpP_i {c rest : Code} {l : Nat} (hf : findLabel c l = some rest) (h : wpC .on C r rest s (noGotoP Q)) : jumpP C r c Q l s := ⟨rest, hf, (wpC_ok h).mono (fun e s' h' => by cases e <;> exact h')⟩
theorem noGotoP_normal : noGotoP Q .on .normal s = Q .on .normal s := rfl
theorem noGotoP_ret : noGotoP Q .on .ret s = Q .on .ret s := rfl
theorem noGotoP_exit {id : Nat} : noGotoP Q .on (.exit id) s = Q .on (.exit id) s := rfl
theorem wpC_region {id : Nat} : wpC .on C r (.region id ops true) s Q = wpOps (.drawn (escC C r id ops s Q)) .on C ops ops.toList [] s (fun p cl s' => psafeC ops cl = true ∧ Q p .normal s') := rfl
theorem wpC_regionf {id : Nat} : wpC .on C r (.region id ops false) s Q = wpOps .seq .on C ops ops.toList [] s (fun p _ s' => Q p .normal s') := rfl
def rangeP (C : Cx) (r : Option Nat) (g : Operand) (ps : Array Tmp) (x y : Code) (s : AS) (Q : Ph → Exit → AS → Prop) : Prop := ACode C r (.rangeFunc g ps x y) s (Q .on)
theorem wpC_range {g : Operand} {ps : Array Tmp} : wpC .on C r (.rangeFunc g ps x y) s Q = rangeP C r g ps x y s Q := rfl
theorem wpC_loop : wpC .on C r (.loop x) s Q = loopC C r x s Q := rfl
theorem thenP_normal {L : Ph → AS → Prop} : thenP L Q .on .normal s = L .on s := rfl
theorem thenP_ret {L : Ph → AS → Prop} : thenP L Q .on .ret s = Q .on .ret s := rfl
theorem thenP_exit {L : Ph → AS → Prop} {id : Nat} : thenP L Q .on (.exit id) s = Q .on (.exit id) s := rfl
theorem thenP_goto {L : Ph → AS → Prop} {id : Nat} : thenP L Q .on (.goto id) s = Q .on (.goto id) s := rfl
theorem inBlockP_normal {id : Nat} : inBlockP id Q .on .normal s = Q .on .normal s := rfl
theorem inBlockP_ret {id : Nat} : inBlockP id Q .on .ret s = Q .on .ret s := rfl
theorem inBlockP_goto {id l : Nat} : inBlockP id Q .on (.goto l) s = Q .on (.goto l) s := rfl
theorem inBlockP_exit {id id' : Nat} : inBlockP id Q .on (.exit id') s = if id' = id then Q .on .normal s else Q .on (.exit id') s := rfl
theorem finC_ret {fn : Func} {res : AV} {own : Option (Nat × TypeId)} : finC C fn res own .on .ret s = wpOut C fn res own s := rfl
theorem finJ_ret {fn : Func} {L : AV → AS → Prop} : finJ C fn L .on .ret s = wpO .on (resL C.P s fn.results.toList) fun _ l => L (tup1 l) s := rfl
theorem finJ_normal {fn : Func} {L : AV → AS → Prop} : finJ C fn L .on .normal s = wpO .on (resL C.P s fn.results.toList) fun _ l => L (tup1 l) s := rfl
theorem finC_normal {fn : Func} {res : AV} {own : Option (Nat × TypeId)} : finC C fn res own .on .normal s = wpOut C fn res own s := rfl
theorem wpOps_nil {j : Md} {cl : List Cls} {K : Ph → List Cls → AS → Prop} : wpOps j .on C ops [] cl s K = K .on cl.reverse s := rfl
theorem wpOps_cons {j : Md} {o : Oper} {l : List Oper} {cl : List Cls} {K : Ph → List Cls → AS → Prop} : wpOps j .on C ops (o :: l) cl s K = wpStep j .on C ops s o fun p c s' => wpOps j p C ops l (c :: cl) s' K := rfl
/-- without a guard -/
theorem wpStep_d {j : Md} {d : Nat} {op : Op} {ty : TypeId} {ps : String} {af : Array Edge} {K : Ph → Cls → AS → Prop} : wpStep j .on C ops s { dst := some d, op := op, type := ty, pos := ps, after := af, guard := none } K = (d < s.N ∧ wpOp j .on C s (some d) op K) := by
  simp [wpStep, guardOf, wpO, dstOk, split2]
theorem wpStep_n {j : Md} {op : Op} {ty : TypeId} {ps : String} {af : Array Edge} {K : Ph → Cls → AS → Prop} : wpStep j .on C ops s { dst := none, op := op, type := ty, pos := ps, after := af, guard := none } K = wpOp j .on C s none op K := by
  simp [wpStep, guardOf, wpO, dstOk, split2]
def grd (want : Bool) : AV → Option Bool
  | .bool b => some (b == want)
  | .tup [] => some false
  | _ => none
theorem grd_bool {want b : Bool} : grd want (.bool b) = some (b == want) := rfl
theorem grd_tup {want : Bool} : grd want (.tup []) = some false := rfl
theorem wpStep_g {j : Md} {d gi : Nat} {want : Bool} {op : Op} {ty : TypeId} {ps : String} {af : Array Edge} {K : Ph → Cls → AS → Prop} :
    wpStep j .on C ops s { dst := some d, op := op, type := ty, pos := ps, after := af, guard := some (gi, want) } K = wpO .on (((ops[gi]?).bind (·.dst)).bind fun t => (s.tm t).bind (grd want)) fun _ g => d < s.N ∧ split2 g (fun p => wpOp j p C s (some d) op K) (fun p => K p .comp (s.put (some d) (.tup []))) := by
  have : guardOf ops s { dst := some d, op := op, type := ty, pos := ps, after := af, guard := some (gi, want) } = (((ops[gi]?).bind (·.dst)).bind fun t => (s.tm t).bind (grd want)) := by
    simp only [guardOf]
    cases (ops[gi]?).bind (·.dst) with
    | none => rfl
    | some t =>
      simp only [Option.bind_some]
      cases s.tm t with
      | none => rfl
      | some x => cases x with
        | tup l => cases l <;> rfl
        | _ => rfl
  unfold wpStep
  rw [this]
  congr 1
  funext p g
  simp [dstOk]
theorem wpStep_gn {j : Md} {gi : Nat} {want : Bool} {op : Op} {ty : TypeId} {ps : String} {af : Array Edge} {K : Ph → Cls → AS → Prop} :
    wpStep j .on C ops s { dst := none, op := op, type := ty, pos := ps, after := af, guard := some (gi, want) } K = wpO .on (((ops[gi]?).bind (·.dst)).bind fun t => (s.tm t).bind (grd want)) fun _ g => split2 g (fun p => wpOp j p C s none op K) (fun p => K p .comp s) := by
  have : guardOf ops s { dst := none, op := op, type := ty, pos := ps, after := af, guard := some (gi, want) } = (((ops[gi]?).bind (·.dst)).bind fun t => (s.tm t).bind (grd want)) := by
    simp only [guardOf]
    cases (ops[gi]?).bind (·.dst) with
    | none => rfl
    | some t =>
      simp only [Option.bind_some]
      cases s.tm t with
      | none => rfl
      | some x => cases x with
        | tup l => cases l <;> rfl
        | _ => rfl
  unfold wpStep
  rw [this]
  congr 1
  funext p g
  simp [dstOk, AS.put]
variable {j : Md} {d : Option Nat} {K : Ph → Cls → AS → Prop} {a b c : Operand} {t u : TypeId}
theorem wpOp_pure {op : Op} (h : valCall op = none) : wpOp j .on C s d op K = wpO .on (ev C.P s op) fun p e => K p (cls (.eff e)) (apEff s d e) := by unfold wpOp; rw [h]
theorem wp_move : wpOp j .on C s d (.move a) K = wpO .on (evalO s a) fun p v => K p .comp (apEff s d (.val v)) := (wpOp_pure rfl).trans wpO_map
theorem wp_assign : wpOp j .on C s d (.assign a) K = wpO .on (evalO s a) fun p v => K p .comp (apEff s d (.val v)) := (wpOp_pure rfl).trans wpO_map
def pickP (s : AS) (a b : Operand) (d : Option Nat) (K : Ph → Cls → AS → Prop) : AV → Prop
  | .bool q => split2 q (fun p => wpO p (evalO s a) fun p v => K p .comp (apEff s d (.val v))) (fun p => wpO p (evalO s b) fun p v => K p .comp (apEff s d (.val v)))
  | _ => False
theorem pickP_bool {q : Bool} : pickP s a b d K (.bool q) = split2 q (fun p => wpO p (evalO s a) fun p v => K p .comp (apEff s d (.val v))) (fun p => wpO p (evalO s b) fun p v => K p .comp (apEff s d (.val v))) := rfl
theorem wp_pick : wpOp j .on C s d (.pick c a b) K = wpO .on (evalO s c) fun p v => pickP s a b d K v := by
  rw [wpOp_pure rfl]
  show wpO .on (Option.map _ _) _ = _
  rw [wpO_map]
  show wpO .on (match evalO s c with | some (.bool true) => evalO s a | some (.bool false) => evalO s b | _ => none) _ = _
  cases evalO s c with
  | none => simp [wpO]
  | some v =>
    cases v with
    | bool q => cases q <;> simp [wpO, pickP, split2, cls]
    | _ => simp [wpO, pickP]
theorem wp_binOp {op : BinOp} {q : TypeId} : wpOp j .on C s d (.binOp op t a b q) K = wpO .on (evalO s a) fun p x => wpO p (evalO s b) fun p y => wpO p (binG C.P op t (isC a || isC b) x y) fun p v => K p .comp (apEff s d (.val v)) := by
  rw [wpOp_pure rfl]
  show wpO .on (Option.map _ (Option.bind _ _)) _ = _
  simp only [wpO_mapp, wpO_bindp, cls]
theorem wp_unOp {op : UnOp} : wpOp j .on C s d (.unOp op t a) K = wpO .on (evalO s a) fun p x => wpO p (un op x) fun p v => K p .comp (apEff s d (.val v)) := by
  rw [wpOp_pure rfl]
  show wpO .on (Option.map _ (Option.bind _ _)) _ = _
  simp only [wpO_mapp, wpO_bindp, cls]
theorem wp_extract {i : Nat} : wpOp j .on C s d (.extract a i) K = wpO .on (evalO s a) fun p x => wpO p (asTup x) fun p vs => wpO p (vs[i]?) fun p v => K p .comp (apEff s d (.val v)) := by
  rw [wpOp_pure rfl]
  show wpO .on (Option.map _ (Option.bind (Option.bind _ _) _)) _ = _
  simp only [wpO_mapp, wpO_bindp, cls]
theorem wp_build {ps : Array (Nat × Operand)} : wpOp j .on C s d (.build t ps) K = (isStruct C.P t = true ∧ wpO .on (zeroT C.P t) fun p z0 => wpO p (asAggL z0) fun p z => wpO p (evalP s ps.toList) fun p qs => wpO p (bld (fldPl C.P t) z qs) fun p v => K p .comp (apEff s d (.val (.agg v)))) := by
  rw [wpOp_pure rfl]
  show wpO .on (Option.map _ (if _ then _ else _)) _ = _
  rw [wpO_map, wpO_ite]
  simp only [wpO_mapp, wpO_bindp, cls]
theorem wp_field {i : Nat} : wpOp j .on C s d (.field t a i) K = wpO .on (evalO s a) fun p x => wpO p (asAggL x) fun p cs => wpO p (fldAt C.P t i cs) fun p v => K p .comp (apEff s d (.val v)) := by
  rw [wpOp_pure rfl]
  show wpO .on (Option.map _ (Option.bind (Option.bind _ _) _)) _ = _
  simp only [wpO_mapp, wpO_bindp, cls]
theorem wp_fieldAddr {i : Nat} : wpOp j .on C s d (.fieldAddr t a i) K = wpO .on (evalO s a) fun p x => wpO p (fldAddr C.P t i x) fun p v => K p .comp (apEff s d (.val v)) := by
  rw [wpOp_pure rfl]
  show wpO .on (Option.map _ (Option.bind _ _)) _ = _
  simp only [wpO_mapp, wpO_bindp, cls]
theorem wp_indexAddr : wpOp j .on C s d (.indexAddr t a b) K = wpO .on (evalO s a) fun p x => wpO p (evalO s b) fun p y => wpO p (idxAddr C.P t x y) fun p v => K p .comp (apEff s d (.val v)) := by
  rw [wpOp_pure rfl]
  show wpO .on (Option.map _ (Option.bind _ _)) _ = _
  simp only [wpO_mapp, wpO_bindp, cls]
theorem wp_index : wpOp j .on C s d (.index t a b) K = wpO .on (evalO s a) fun p x => wpO p (evalO s b) fun p y => wpO p (idx C.P t x y) fun p v => K p .comp (apEff s d (.val v)) := by
  rw [wpOp_pure rfl]
  show wpO .on (Option.map _ (Option.bind _ _)) _ = _
  simp only [wpO_mapp, wpO_bindp, cls]
theorem wp_slice {lo hi : Option Operand} : wpOp j .on C s d (.slice t a lo hi none) K = wpO .on (evalO s a) fun p x => wpO p (cutA C.P t x (evalH s lo) (evalH s hi)) fun p v => K p .comp (apEff s d (.val v)) := by
  rw [wpOp_pure rfl]
  show wpO .on (Option.map _ (Option.bind _ _)) _ = _
  simp only [wpO_mapp, wpO_bindp, cls]
theorem wp_slice3 {lo hi : Option Operand} {mx : Operand} : wpOp j .on C s d (.slice t a lo hi (some mx)) K = wpO .on (evalO s a) fun p x => wpO p (cut3 C.P t x (evalH s lo) (evalH s hi) (evalH s (some mx))) fun p v => K p .comp (apEff s d (.val v)) := by
  rw [wpOp_pure rfl]
  show wpO .on (Option.map _ (Option.bind _ _)) _ = _
  simp only [wpO_mapp, wpO_bindp, cls]
theorem wp_makeInterface : wpOp j .on C s d (.makeInterface t a) K = wpO .on (evalO s a) fun p x => wpO p (mkIfc C.P t x) fun p v => K p .comp (apEff s d (.val v)) := by
  rw [wpOp_pure rfl]
  show wpO .on (Option.map _ (Option.bind _ _)) _ = _
  simp only [wpO_mapp, wpO_bindp, cls]
theorem wp_convert : wpOp j .on C s d (.convert t u a) K = wpO .on (evalO s a) fun p x => wpO p (conv C.P t u x) fun p v => K p .comp (apEff s d (.val v)) := by
  rw [wpOp_pure rfl]
  show wpO .on (Option.map _ (Option.bind _ _)) _ = _
  simp only [wpO_mapp, wpO_bindp, cls]
theorem wp_nilCheck : wpOp j .on C s d (.nilCheck a) K = wpO .on (evalO s a) fun p x => wpO p (asAddrA x) fun p v => K p .comp (apEff s d (.val v)) := by
  rw [wpOp_pure rfl]
  show wpO .on (Option.map _ (Option.bind _ _)) _ = _
  simp only [wpO_mapp, wpO_bindp, cls]
theorem wp_load : wpOp j .on C s d (.load t a) K = wpO .on (evalO s a) fun p x => wpO p (match x with | .ptr id off => (s.ob[id]?).bind fun cs => (readAt C.P t off cs).map (.ld id) | .cptr cs => (readAt C.P t 0 cs).map .val | .eptr k j off sz => ldrE C.P t (s.live k) j off sz | _ => none) fun p e => K p (cls (.eff e)) (apEff s d e) := (wpOp_pure rfl).trans wpO_bind
theorem wp_store : wpOp j .on C s d (.store t a b) K = wpO .on (evalO s a) fun p x => wpO p (evalO s b) fun p v => wpO p (match x with | .ptr id off => (s.ob[id]?).bind fun cs => stE C.P t cs id off v | .eptr k j off sz => strE C.P t (s.live k) k j off sz v | _ => none) fun p e => K p (cls (.eff e)) (apEff s d e) := by
  rw [wpOp_pure rfl]
  show wpO .on (Option.bind _ _) _ = _
  simp only [wpO_bindp] <;> rfl
theorem wp_alloc : wpOp j .on C s d (.alloc t) K = wpO .on (zeroT C.P t) fun p x => wpO p (newA C.P t s.ob.length x) fun p e => K p (cls (.eff e)) (apEff s d e) := (wpOp_pure rfl).trans wpO_bind
theorem wp_box : wpOp j .on C s d (.box t a) K = wpO .on (evalO s a) fun p x => wpO p (newE s.ob.length x) fun p e => K p (cls (.eff e)) (apEff s d e) := (wpOp_pure rfl).trans wpO_bind
theorem wp_buildSlice {n : Nat} {ps : Array (Nat × Operand)} : wpOp j .on C s d (.buildSlice t n ps) K = wpO .on (evalP s ps.toList) fun p x => wpO p (rowE C.P t n x) fun p e => K p (cls (.eff e)) (apEff s d e) := (wpOp_pure rfl).trans wpO_bind
theorem wp_len : wpOp j .on C s d (.call { callee := .builtin .len, args := #[a], argTypes := #[t] }) K = wpO .on (evalO s a) fun p x => wpO p (lenE C.P s t x) fun p e => K p (cls (.eff e)) (apEff s d e) := by
  rw [wpOp_pure rfl]
  show wpO .on (match evalL s [a], [t] with | some [x], [t] => lenE C.P s t x | _, _ => none) _ = _
  unfold evalL evalL
  cases evalO s a <;> simp [wpO]
theorem wp_makeSlice : wpOp j .on C s d (.makeSlice t a b) K = wpO .on (evalO s a) fun p x => wpO p (evalO s b) fun p y => wpO p (mkE C.P t x y) fun p e => K p (cls (.eff e)) (apEff s d e) := by
  rw [wpOp_pure rfl]
  show wpO .on (Option.bind _ _) _ = _
  simp only [wpO_bindp]
theorem wp_makeMap {r : Option Operand} : wpOp j .on C s d (.makeMap t r) K = wpO .on (mapT C.P t) fun p _ => wpO p (resv s r) fun p _ => K p (cls (.eff (.newm s.ob.length))) (apEff s d (.newm s.ob.length)) := by
  rw [wpOp_pure rfl]
  show wpO .on (Option.bind _ _) _ = _
  simp only [wpO_bindp, wpO_mapp]
theorem wp_insert {x : Operand} : wpOp j .on C s d (.insert t a b x) K = wpO .on (evalO s a) fun p m => wpO p (evalO s b) fun p k => wpO p (evalO s x) fun p v => wpO p (mputA C.P s t k v m) fun p e => K p (cls (.eff e)) (apEff s d e) := by
  rw [wpOp_pure rfl]
  show wpO .on (Option.bind _ _) _ = _
  simp only [wpO_bindp]
theorem wp_mapUpdate {x : Operand} : wpOp j .on C s d (.mapUpdate t a b x) K = wpO .on (evalO s a) fun p m => wpO p (evalO s b) fun p k => wpO p (evalO s x) fun p v => wpO p (mputA C.P s t k v m) fun p e => K p (cls (.eff e)) (apEff s d e) := by
  rw [wpOp_pure rfl]
  show wpO .on (Option.bind _ _) _ = _
  simp only [wpO_bindp]
theorem wp_lookup {ok : Bool} : wpOp j .on C s d (.lookup t a b ok) K = wpO .on (evalO s a) fun p m => wpO p (evalO s b) fun p k => wpO p (mgetA C.P s t k ok m) fun p e => K p (cls (.eff e)) (apEff s d e) := by
  rw [wpOp_pure rfl]
  show wpO .on (Option.bind _ _) _ = _
  simp only [wpO_bindp]
theorem wp_min : wpOp j .on C s d (.call { callee := .builtin .min, args := #[a, b], argTypes := #[t, u] }) K = wpO .on (evalO s a) fun p x => wpO p (evalO s b) fun p y => wpO p (mn2 x y) fun p v => K p .comp (apEff s d (.val v)) := by
  rw [wpOp_pure rfl]
  show wpO .on (Option.map _ (match evalL s [a, b] with | some [a, b] => mn2 a b | _ => none)) _ = _
  unfold evalL evalL evalL
  rw [wpO_map]
  cases evalO s a <;> cases evalO s b <;> simp [wpO, cls]
theorem wp_max : wpOp j .on C s d (.call { callee := .builtin .max, args := #[a, b], argTypes := #[t, u] }) K = wpO .on (evalO s a) fun p x => wpO p (evalO s b) fun p y => wpO p (mx2 x y) fun p v => K p .comp (apEff s d (.val v)) := by
  rw [wpOp_pure rfl]
  show wpO .on (Option.map _ (match evalL s [a, b] with | some [a, b] => mx2 a b | _ => none)) _ = _
  unfold evalL evalL evalL
  rw [wpO_map]
  cases evalO s a <;> cases evalO s b <;> simp [wpO, cls]
theorem wp_append : wpOp j .on C s d (.call { callee := .builtin .append, args := #[a, b], argTypes := #[t, u] }) K = wpO .on (evalO s a) fun p x => wpO p (evalO s b) fun p y => wpO p (appA C.P s t u x y) fun p e => K p (cls (.eff e)) (apEff s d e) := by
  rw [wpOp_pure rfl]
  show wpO .on (match evalL s [a, b], [t, u] with | some [x, y], [t, t'] => appA C.P s t t' x y | _, _ => none) _ = _
  unfold evalL evalL evalL
  cases evalO s a <;> cases evalO s b <;> simp [wpO]
theorem escP_seq {X : Prop} : escP .seq X = X := rfl
theorem escP_drawn {E X : Prop} : escP (.drawn E) X = E := rfl
theorem callV_func {g : FuncId} {xs cap : List AV} : callV j C xs s d K (.fn (.func g) [] cap) = split2 (cap.isEmpty && puL (xs.map er) && !(xs.any AV.isY)) (fun _ => callP j C g (xs.map er) (fun p res own => K p (cls (.call own.isSome)) (callSt s d res own)) (jcallP C g (xs ++ cap) s (fun p res s2 => K p .tok ((s2.fr s.N s.tm).put d res)))) (fun _ => escP j (jcallP C g (xs ++ cap) s (fun p res s2 => K p .tok ((s2.fr s.N s.tm).put d res)))) := rfl
theorem callV_yield {l : Nat} {xs : List AV} : callV j C xs s d K (.fn (.yield l) [] []) = (escP j (yieldP C l xs s (fun p b s2 => K p .tok ((s2.fr s.N s.tm).put d (.bool b))))) := rfl
theorem wp_call {fo : Operand} {ar : Array Operand} {ty : Array TypeId} : wpOp j .on C s d (.call { callee := .value fo, args := ar, argTypes := ty }) K = wpO .on (evalO s fo) fun p fv => wpO p (evalL s ar.toList) fun p xs => callV j C xs s d K fv := rfl
theorem wp_makeFunc {g : FuncId} {x1 x2 : Array Operand} : wpOp j .on C s d (.makeFunc (.func g) x1 x2) K = wpO .on (evalL s x1.toList) fun p fs => wpO p (evalL s x2.toList) fun p cs => K p .comp (apEff s d (.val (.fn (.func g) fs cs))) := by
  rw [wpOp_pure rfl]
  show wpO .on (Option.map _ (Option.bind _ _)) _ = _
  cases evalL s x1.toList <;> cases evalL s x2.toList <;> simp [wpO, cls]
end
theorem cutA_sl {P : Program} {t : TypeId} {k : Nat} {xs : List (List AV)} {lo hi : Option (Option AV)} : cutA P t (.sl k xs) lo hi = cutAt P t (.sl k xs) lo hi := rfl
theorem cutA_str {P : Program} {t : TypeId} {b : ByteArray} {lo hi : Option (Option AV)} : cutA P t (.str b) lo hi = cutAt P t (.str b) lo hi := rfl
theorem idxArr_sl {P : Program} {t : TypeId} {k : Nat} {xs : List (List AV)} {i : AV} : idxArr P t (.sl k xs) i = none := by
  unfold idxArr
  cases arT P t with
  | none => rfl
  | some q => obtain ⟨len, e⟩ := q; dsimp only; cases szOf P e <;> rfl
theorem idxArr_own {P : Program} {t : TypeId} {k n : Nat} {i : AV} : idxArr P t (.own k n) i = none := by
  unfold idxArr
  cases arT P t with
  | none => rfl
  | some q => obtain ⟨len, e⟩ := q; dsimp only; cases szOf P e <;> rfl
theorem idxAddr_low {P : Program} {t : TypeId} {k : Nat} {q : IntKind} {xs : List (List AV)} {n : Int} : idxAddr P t (.sl k xs) (.int q n) = (elT P t).bind fun e => (szOf P e).bind fun sz => if 0 ≤ n ∧ n < xs.length then (if ∀ el ∈ xs, el.length = sz then some (.cptr (xs.getD n.toNat [])) else none) else none := by
  unfold idxAddr
  cases elT P t with
  | none => exact idxArr_sl
  | some e => simp only [Option.bind_some]; cases szOf P e <;> rfl
theorem idxAddr_own {P : Program} {t : TypeId} {k m : Nat} {q : IntKind} {n : Int} : idxAddr P t (.own k m) (.int q n) = (elT P t).bind fun e => (szOf P e).bind fun sz => if 0 ≤ n ∧ n < m then some (.eptr k n.toNat 0 sz) else none := by
  unfold idxAddr
  cases elT P t with
  | none => exact idxArr_own
  | some e => simp only [Option.bind_some]; cases szOf P e <;> rfl
theorem cls_val {x : AV} : cls (.eff (.val x)) = .comp := rfl
theorem cls_ld {x : AV} {i : Nat} : cls (.eff (.ld i x)) = .ld i := rfl
theorem cls_st {cs : List AV} {i j : Nat} : cls (.eff (.st i j cs)) = .st i := rfl
theorem cls_newm {i : Nat} : cls (.eff (.newm i)) = .new i := rfl
theorem cls_new {i : Nat} {cs : List AV} : cls (.eff (.new i cs)) = .new i := rfl
theorem cls_row {e : TypeId} {xs : List (List AV)} : cls (.eff (.row e xs)) = .comp := rfl
theorem cls_app {e : TypeId} {xs : List (List AV)} {i : Nat} : cls (.eff (.app i e xs)) = .tok := rfl
theorem cls_ldr {x : AV} : cls (.eff (.ldr x)) = .tok := rfl
theorem cls_str {t : Nat} {e : TypeId} {xs : List (List AV)} : cls (.eff (.str t e xs)) = .tok := rfl
theorem cls_appr {t : Nat} {e : TypeId} {xs : List (List AV)} : cls (.eff (.appr t e xs)) = .tok := rfl
theorem cls_calln : cls (.call (Option.isSome (none : Option (Nat × TypeId)))) = .comp := rfl
theorem cls_callo {q : Nat × TypeId} : cls (.call (Option.isSome (some q))) = .tok := rfl
theorem cls_callt : cls (.call true) = .tok := rfl
theorem cls_callf : cls (.call false) = .comp := rfl
attribute [simp] cls_ldr cls_str cls_appr cls_val cls_ld cls_st cls_new cls_newm cls_row cls_app cls_calln cls_callo cls_callt cls_callf
attribute [simp low] idxAddr_low idxAddr_own
attribute [simp] split2_not
attribute [simp ↓] wpC_scope inScopeP_normal inScopeP_ret inScopeP_exit inScopeP_goto noGotoP_normal noGotoP_ret noGotoP_exit split2_true split2_false wpO_some wpO_bind wpO_map wpC_skip wpC_label wpC_ret wpC_exit wpC_goto wpC_seq cndC_bool wpC_cond wpC_block wpC_regionf wpC_region wpC_loop thenP_normal thenP_ret thenP_exit thenP_goto
  inBlockP_normal inBlockP_ret inBlockP_goto inBlockP_exit finC_ret finC_normal finJ_ret finJ_normal wpOps_nil wpOps_cons wpStep_d wpStep_n grd_bool grd_tup wpStep_g wpStep_gn wp_move wp_assign pickP_bool wp_pick wp_binOp wp_unOp wp_extract wp_build wp_field wp_fieldAddr wp_indexAddr wp_index wp_slice
  wp_convert wp_slice3 wp_makeInterface wp_nilCheck wp_load wp_store wp_alloc wp_box wp_buildSlice wp_len wp_makeSlice wp_makeMap wp_insert wp_mapUpdate wp_lookup wp_min wp_max wp_append wp_call wp_makeFunc callV_func callV_yield escP_seq escP_drawn wpC_range S_put S_putn S_deln S_new S_newm S_st S_val S_ld S_vale S_row S_app S_ldr S_str S_appr S_calln S_callo callSt_none
attribute [simp] getElem?_mid getElem?_end set_end wpO_none wpO_ite wpO_itn S_evalO S_evalG S_tm S_N S_ob S_live S_next S_lp evalO_const evalO_func
  isTy tyOf rowOf ldrE strE spl mkE argsM look rmv newE newA selfC AV.isTup AV.isY AV.cells cv cv1 cvL bin binG isC AV.isNili eqL nilQ un fldAddr fldAt idx bnd cutA_sl cutA_str cutAt cut3 cutArr arrN idxArr mkIfc conv byt lenOf lenE mlenE asMpo mputA mgetA mputE mgetE mnilE mput mget okTup resv asIntU kOk fitL kEq kFind mn2 mx2 evalL evalP evalH asTup asAggL asAddrA bld splice readAt stE rowE appE appA appR rowArg stob wpOut resL resA tup1 erT frzT frz frz1 er er1 pu puL puLL withTok lookAll lookAll1
end Go.Proofs.AL
namespace Go.Proofs.AL
open Go Go.RowKit
set_option linter.unusedSimpArgs false
set_option linter.unusedVariables false

/-! ## Range over a function that tells a list -/
abbrev Lps := Nat → Option (Loop × (Nat → Option AV))
abbrev Obs := List (List AV)
abbrev Lvs := List (Nat × Tk)
def lpSet (lp : Lps) (l : Nat) (x : Option (Loop × (Nat → Option AV))) : Lps := fun k => if k = l then x else lp k
section
variable {C : Cx} {N : Nat} {m : List (Nat × AV)} {ob : Obs} {lv : Lvs} {nx : Nat} {lp : Lps}
theorem lpSet_same {l : Nat} {x : Option (Loop × (Nat → Option AV))} : lpSet lp l x l = x := if_pos rfl
theorem lpSet_set {l : Nat} {x y : Option (Loop × (Nat → Option AV))} : lpSet (lpSet lp l x) l y = lpSet lp l y := by
  funext k; unfold lpSet; by_cases h : k = l <;> simp [h]
theorem lpSet_none {l : Nat} {x : Option (Loop × (Nat → Option AV))} (h : lp l = none) : lpSet (lpSet lp l x) l none = lp := by
  funext k; unfold lpSet; by_cases e : k = l
  · subst e; simp [h]
  · simp [e]
theorem S_setLp {l : Nat} {x : Option (Loop × (Nat → Option AV))} : (S N m ob lv nx lp).setLp l x = S N m ob lv nx (lpSet lp l x) := rfl
theorem updT_look : ∀ (l : List (Tmp × AV)) (m : List (Nat × AV)), updT (look m) l = look (l.reverse ++ m)
  | [], m => rfl
  | (p, x) :: l, m => by
    have e : (fun t => if t = p then some x else look m t) = look ((p, x) :: m) := by
      funext t
      show _ = (if p = t then some x else look m t)
      by_cases h : p = t
      · subst h; simp
      · have h2 : ¬ t = p := fun e => h e.symm
        simp [h, h2]
    show updT (fun t => if t = p then some x else look m t) l = _
    rw [e, updT_look l]
    simp

/-- The function gf with these captured values tells these values, one after the other, and leaves the memory be. -/
structure IsSeq (C : Cx) (gf : FuncId) (cap : List AV) (vs : List (List AV)) : Prop where
  ent : EntersF C.P gf
  go : ∀ (y k0 : Nat) (J : Nat → Mem) (Stop : Mem) (lp : Lps),
    (∀ (i : Nat) (hi : i < vs.length) (c rest : Obs) (lv : Lvs) (nx N : Nat) (m : List (Nat × AV)), c.length = k0 → J i c lv nx lp → YCall C y vs[i] (S N m (c ++ rest) lv nx lp) (YEnds k0 rest lp (J (i + 1)) Stop)) →
    ∀ (c : Obs) (lv : Lvs) (nx N : Nat) (m : List (Nat × AV)), c.length = k0 → J 0 c lv nx lp →
      JCall C gf (.fn (.yield y) [] [] :: cap) (S N m c lv nx lp) (fun _ s2 => ItEnds k0 lp (J vs.length) Stop s2)

/-- How a round of a loop over such a function goes on, for simp. -/
def rNext (k0 : Nat) (rest : Obs) (J : Obs → Lvs → Nat → Prop) (s2 : AS) : Prop := ∃ c' rest' lv', c'.length = k0 ∧ s2.ob = c' ++ (rest ++ rest') ∧ s2.live = look lv' ∧ J c' lv' s2.next
def rOut (k0 : Nat) (rest : Obs) (Q : AS → Prop) (N : Nat) (m : List (Nat × AV)) (lp : Lps) (s2 : AS) : Prop := ∃ c' rest' lv', c'.length = k0 ∧ s2.ob = c' ++ (rest ++ rest') ∧ s2.live = look lv' ∧ ∀ g, Q (S N m (c' ++ g) lv' s2.next lp)
def rEndP (k0 : Nat) (rest : Obs) (J : Obs → Lvs → Nat → Prop) (Q : Ph → Exit → AS → Prop) (N : Nat) (m : List (Nat × AV)) (lp lp2 : Lps) : Ph → Exit → AS → Prop
  | .on, .normal, s2 => s2.lp = lp2 ∧ rNext k0 rest J s2
  | .on, .ret, s2 => s2.lp = lp2 ∧ rOut k0 rest (Q .on .ret) N m lp s2
  | .on, .exit id, s2 => s2.lp = lp2 ∧ rOut k0 rest (Q .on (.exit id)) N m lp s2
  | .on, .goto t, s2 => s2.lp = lp2 ∧ rOut k0 rest (Q .on (.goto t)) N m lp s2
  | _, _, _ => False
def rBodyP (C : Cx) (bd : Code) (l : Nat) (lp1 lp2 : Lps) (K : Ph → Exit → AS → Prop) : Ph → Exit → AS → Prop
  | p, .normal, s1 => s1.lp = lp1 ∧ wpC p C (some l) bd { s1 with lp := lp2 } K
  | _, _, _ => False
section
variable {k0 : Nat} {rest : Obs} {J : Obs → Lvs → Nat → Prop} {Q : Ph → Exit → AS → Prop} {lp1 lp2 lp' : Lps} {bd : Code} {l N' : Nat} {m' : List (Nat × AV)} {K : Ph → Exit → AS → Prop}
theorem rBodyP_normal : rBodyP C bd l lp1 lp2 K .on .normal (S N m ob lv nx lp1) = wpC .on C (some l) bd (S N m ob lv nx lp2) K := by
  show (lp1 = lp1 ∧ wpC .on C (some l) bd (S N m ob lv nx lp2) K) = _
  simp
theorem rEndP_normal : rEndP k0 rest J Q N m lp lp2 .on .normal (S N' m' ob lv nx lp2) = rNext k0 rest J (S N' m' ob lv nx lp2) := by
  show (lp2 = lp2 ∧ _) = _
  simp
theorem rEndP_ret : rEndP k0 rest J Q N m lp lp2 .on .ret (S N' m' ob lv nx lp2) = rOut k0 rest (Q .on .ret) N m lp (S N' m' ob lv nx lp2) := by
  show (lp2 = lp2 ∧ _) = _
  simp
theorem rEndP_exit {id : Nat} : rEndP k0 rest J Q N m lp lp2 .on (.exit id) (S N' m' ob lv nx lp2) = rOut k0 rest (Q .on (.exit id)) N m lp (S N' m' ob lv nx lp2) := by
  show (lp2 = lp2 ∧ _) = _
  simp
theorem rEndP_goto {id : Nat} : rEndP k0 rest J Q N m lp lp2 .on (.goto id) (S N' m' ob lv nx lp2) = rOut k0 rest (Q .on (.goto id)) N m lp (S N' m' ob lv nx lp2) := by
  show (lp2 = lp2 ∧ _) = _
  simp
theorem rOut_i {Q : AS → Prop} (c' rest' : Obs) (h1 : c'.length = k0) (h2 : ob = c' ++ (rest ++ rest')) (h4 : ∀ g, Q (S N m (c' ++ g) lv nx lp)) : rOut k0 rest Q N m lp (S N' m' ob lv nx lp2) := ⟨c', rest', lv, h1, h2, rfl, h4⟩
theorem rNext_i (c' rest' : Obs) (lv' : Lvs) (h1 : c'.length = k0) (h2 : ob = c' ++ (rest ++ rest')) (h3 : look lv = look lv') (h4 : J c' lv' nx) : rNext k0 rest J (S N' m' ob lv nx lp2) := ⟨c', rest', lv', h1, h2, h3, h4⟩
end
/-- A loop over a function that tells a list. J: what holds of the caller's variables ahead of round i. -/
theorem range_seq {r : Option Nat} {t : Nat} {ps : Array Tmp} {as bd : Code} {Q : Ph → Exit → AS → Prop} {gf : FuncId} {cap : List AV} (vs : List (List AV)) (J : Nat → Obs → Lvs → Nat → Prop)
    (hr : ∀ l0, r = some l0 → ∃ q, lp l0 = some q) (hg : evalO (S N m ob lv nx lp) (.tmp t) = some (.fn (.func gf) [] cap)) (hq : IsSeq C gf cap vs) (hps : ∀ v ∈ vs, ps.size = v.length) (hpb : ∀ p ∈ ps.toList, p < N) (hJ : J 0 ob lv nx)
    (hround : ∀ (l : Nat) (lp1 lp2 : Lps) (i : Nat) (hi : i < vs.length) (c rest : Obs) (lv : Lvs) (nx : Nat), c.length = ob.length → J i c lv nx → (∃ q, lp2 l = some q) →
      wpC .on C (some l) as (S N ((ps.toList.zip vs[i]).reverse ++ m) (c ++ rest) lv nx lp1) (rBodyP C bd l lp1 lp2 (rEndP ob.length rest (J (i + 1)) Q N m lp lp2)))
    (hend : ∀ (c rest : Obs) (lv : Lvs) (nx : Nat), c.length = ob.length → J vs.length c lv nx → Q .on .normal (S N m (c ++ rest) lv nx lp)) : rangeP C r (.tmp t) ps as bd (S N m ob lv nx lp) Q := by
  have main : ∀ (l : Nat) (rc : Loop), lp l = none → rc.state = .ready → rc.pending = none → rc.params = ps → rc.assign = as → rc.body = bd → rc.tmps.size = N →
      JCall C gf (.fn (.yield l) [] [] :: cap) ((S N m ob lv nx lp).setLp l (some (rc, look m))) (fun _ s2 => afterRange C r l (S N m ob lv nx lp) (Q .on) s2) := by
    intro l rc hn r1 r2 r3 r4 r5 r6
    subst r3 r4 r5 r6
    rw [S_setLp]
    refine (hq.go l ob.length (fun i c lv nx lp' => lp' = lpSet lp l (some (rc, look m)) ∧ J i c lv nx)
      (fun c lv nx lp' => ∃ code ex, (code = .ret ∧ ex = Exit.ret ∨ (∃ id, code = .exit id ∧ ex = .exit id) ∨ (∃ id, code = .goto id ∧ ex = .goto id)) ∧ lp' = lpSet lp l (some ({ rc with state := .done, pending := some code }, look m)) ∧ ∀ g, Q .on ex (S rc.tmps.size m (c ++ g) lv nx lp))
      (lpSet lp l (some (rc, look m))) ?_ ob lv nx rc.tmps.size m rfl ⟨rfl, hJ⟩).mono ?_
    · rintro i hi c rest lv1 nx1 N1 m1 hc ⟨_, hJ1⟩
      refine YCall.mk (tm0 := look m) lpSet_same r1 (hps _ (List.getElem_mem hi)) hpb ?_
      have e : (S N1 m1 (c ++ rest) lv1 nx1 (lpSet lp l (some (rc, look m)))).fr rc.tmps.size (updT (look m) (rc.params.toList.zip vs[i])) = S rc.tmps.size ((rc.params.toList.zip vs[i]).reverse ++ m) (c ++ rest) lv1 nx1 (lpSet lp l (some (rc, look m))) := by
        rw [updT_look]; rfl
      rw [e]
      have hr := hround l (lpSet lp l (some (rc, look m))) (lpSet lp l (some ({ rc with state := .busy }, look m))) i hi c rest lv1 nx1 hc hJ1 ⟨_, lpSet_same⟩
      refine (wpC_ok hr).mono (fun ex s1 h1 => ?_)
      cases ex with
      | normal =>
        obtain ⟨h1, h2⟩ := h1
        have e1 : s1.setLp l (some ({ rc with state := .busy }, look m)) = { s1 with lp := lpSet lp l (some ({ rc with state := .busy }, look m)) } := by
          show ({ s1 with lp := lpSet s1.lp l _ } : AS) = _
          rw [h1, lpSet_set]
        refine ⟨rfl, by rw [h1]; exact lpSet_same, ?_⟩
        rw [e1]
        refine (wpC_ok h2).mono (fun ex s2 h3 => ?_)
        have stop : ∀ (ex' : Exit) (code : Code), (code = .ret ∧ ex' = Exit.ret ∨ (∃ id, code = .exit id ∧ ex' = .exit id) ∨ (∃ id, code = .goto id ∧ ex' = .goto id)) → s2.lp = lpSet lp l (some ({ rc with state := .busy }, look m)) → rOut ob.length rest (Q .on ex') rc.tmps.size m lp s2 →
            YEnds ob.length rest (lpSet lp l (some (rc, look m))) (fun c lv nx lp' => lp' = lpSet lp l (some (rc, look m)) ∧ J (i + 1) c lv nx) (fun c lv nx lp' => ∃ code ex, (code = .ret ∧ ex = Exit.ret ∨ (∃ id, code = .exit id ∧ ex = .exit id) ∨ (∃ id, code = .goto id ∧ ex = .goto id)) ∧ lp' = lpSet lp l (some ({ rc with state := .done, pending := some code }, look m)) ∧ ∀ g, Q .on ex (S rc.tmps.size m (c ++ g) lv nx lp)) false
              (s2.setLp l (some ({ rc with state := .done, pending := some code }, look m))) := by
          rintro ex' code hce h4 ⟨c', rest', lv', g1, g2, g3, g4⟩
          exact ⟨c', rest', lv', s2.next, _, g1, g2, g3, rfl, (by show lpSet s2.lp l _ = _; rw [h4, lpSet_set]), .inr ⟨rfl, code, ex', hce, rfl, g4⟩⟩
        cases ex with
        | normal =>
          obtain ⟨h4, c', rest', lv', g1, g2, g3, g4⟩ := h3
          refine ⟨by rw [h4]; exact lpSet_same, ⟨c', rest', lv', s2.next, lpSet lp l (some ({ rc with state := .ready, pending := none }, look m)), g1, g2, g3, rfl, ?_, .inl ⟨rfl, ?_, ?_, g4⟩⟩⟩
          · show lpSet s2.lp l _ = _
            rw [h4, lpSet_set]
          · congr 3; rw [← r1, ← r2]
          · congr 3; rw [← r1, ← r2]
        | ret => exact ⟨by rw [h3.1]; exact lpSet_same, stop .ret .ret (.inl ⟨rfl, rfl⟩) h3.1 h3.2⟩
        | exit id => exact ⟨by rw [h3.1]; exact lpSet_same, stop (.exit id) (.exit id) (.inr (.inl ⟨id, rfl, rfl⟩)) h3.1 h3.2⟩
        | goto id => exact ⟨by rw [h3.1]; exact lpSet_same, stop (.goto id) (.goto id) (.inr (.inr ⟨id, rfl, rfl⟩)) h3.1 h3.2⟩
        | _ => exact h3.elim
      | _ => exact h1.elim
    · rintro _ s2 ⟨c, rest, lv', nx', lp', hc, e1, e2, e3, e4, hb⟩
      have e5 : ∀ x, (s2.setLp l x).fr rc.tmps.size (look m) = S rc.tmps.size m (c ++ rest) lv' nx' (lpSet lp' l x) := fun x => S_back (s2 := s2.setLp l x) e1 e2 e3 (by rw [← e4]; rfl)
      rcases hb with ⟨rfl, _, hD⟩ | ⟨code, ex, hce, rfl, hQ⟩
      · refine ⟨rc, by rw [e4, lpSet_same]; rfl, by rw [r1]; decide, ?_⟩
        rw [r2]
        show Q .on .normal ((s2.setLp l none).fr rc.tmps.size (look m))
        rw [e5, lpSet_none hn]
        exact hend c rest lv' nx' hc hD
      · refine ⟨_, by rw [e4, lpSet_same]; rfl, (fun h => by cases h), ?_⟩
        show ACode C r code ((s2.setLp l none).fr rc.tmps.size (look m)) (Q .on)
        rw [e5, lpSet_none hn]
        rcases hce with ⟨rfl, rfl⟩ | ⟨id, rfl, rfl⟩ | ⟨id, rfl, rfl⟩
        · exact .ret (hQ rest)
        · exact .exit (hQ rest)
        · exact .goto (hQ rest)
  cases r with
  | none => exact ACode.range (s := S N m ob lv nx lp) hg hq.ent main
  | some l0 =>
    obtain ⟨q, hq0⟩ := hr l0 rfl
    exact ACode.range' (s := S N m ob lv nx lp) hq0 hg hq.ent (fun l rc _ => main l rc)
end
attribute [simp ↓] rBodyP_normal rEndP_normal rEndP_ret rEndP_exit rEndP_goto
attribute [simp] lpSet_same lpSet_set S_setLp
end Go.Proofs.AL
namespace Go.Proofs.AL
open Go Go.RowKit
set_option linter.unusedSimpArgs false
set_option linter.unusedVariables false

/-! ## Loops: what is kept, what changes -/
/-- The temporaries that are kept. -/
def sel (m : List (Nat × AV)) : List Nat → List (Nat × AV)
  | [] => []
  | t :: ts => match look m t with
    | some x => (t, x) :: sel m ts
    | none => sel m ts
theorem look_append {α : Type} : ∀ (a b : List (Nat × α)) (t : Nat), look (a ++ b) t = (match look a t with | some x => some x | none => look b t)
  | [], b, t => rfl
  | (u, x) :: a, b, t => by
    show (if u = t then some x else look (a ++ b) t) = (match (if u = t then some x else look a t) with | some x => some x | none => look b t)
    by_cases h : u = t
    · simp [h]
    · simp only [if_neg h]; exact look_append a b t
theorem look_sel {m : List (Nat × AV)} : ∀ (ts : List Nat) (t : Nat) (x : AV), look (sel m ts) t = some x → look m t = some x
  | [], t, x, h => by cases h
  | u :: ts, t, x, h => by
    unfold sel at h
    cases hu : look m u with
    | none => rw [hu] at h; exact look_sel ts t x h
    | some y =>
      rw [hu] at h
      unfold look at h
      by_cases e : u = t
      · subst e; rw [if_pos rfl] at h; cases h; exact hu
      · rw [if_neg e] at h; exact look_sel ts t x h
/-- Rows that may be appended to: no more than these. -/
def lvOk (lv lv' : Lvs) : Prop := lv' = lv ∨ lookAll1 lv lv'
theorem lvOk_look {lv lv' : Lvs} (h : lvOk lv lv') (t : Nat) (e : Tk) (he : look lv' t = some e) : (t = 1 ∧ isTy e = true) ∨ look lv t = some e := by
  rcases h with rfl | h
  · exact .inr he
  · exact lookAll1_look h t e he
def againK {α : Type} (pre : α → Nat → Prop) (up : α → List (Nat × AV)) (obs : α → Obs) (lvs : α → Lvs) (meas : α → Nat) (kept : List (Nat × AV)) (N : Nat) (lp : Lps) (x : α) (s : AS) : Prop :=
  ∃ y g nx, pre y nx ∧ meas y < meas x ∧ (S N (up y ++ kept) (obs y ++ g) (lvs y) nx lp).le s
section
variable {C : Cx} {r : Option Nat} {c : Code} {Q : Ph → Exit → AS → Prop} {N nx : Nat} {m : List (Nat × AV)} {ob : Obs} {lv : Lvs} {lp : Lps} {α : Type}
/-- A loop: up: the temporaries that change; keep: those that stay and are wanted; obs: the variables in memory (what comes behind them is nothing to it); lvs: rows that may be appended to. -/
theorem loopK (keep : List Nat) (pre : α → Nat → Prop) (up : α → List (Nat × AV)) (obs : α → Obs) (lvs : α → Lvs) (meas : α → Nat) (x : α) (hx : pre x nx) (hu : lookAll m (up x)) (g : Obs) (hob : ob = obs x ++ g) (hlv : lvOk lv (lvs x))
    (h : ∀ (x : α) (nx : Nat) (g : Obs), pre x nx → 3 ≤ nx → Lens (S N (up x ++ sel m keep) (obs x ++ g) (lvs x) nx lp) → wpC .on C r c (S N (up x ++ sel m keep) (obs x ++ g) (lvs x) nx lp) (thenP (fun _ s' => againK pre up obs lvs meas (sel m keep) N lp x s') Q)) : loopC C r c (S N m ob lv nx lp) Q := by
  let I : { p : α × Nat × Obs // pre p.1 p.2.1 } → AS := fun p => S N (up p.1.1 ++ sel m keep) (obs p.1.1 ++ p.1.2.2) (lvs p.1.1) p.1.2.1 lp
  have hround : ∀ p, ACode C r c (I p) (thenA (fun s' => ∃ q, meas q.1.1 < meas p.1.1 ∧ (I q).le s') (Q .on)) := by
    rintro ⟨⟨x, nx, g⟩, hp⟩
    intro E G a w hR
    refine (wpC_ok (h x nx g hp hR.ne hR.lens)).mono (fun e s' h' => ?_) E G a w hR
    cases e with
    | normal =>
      obtain ⟨y, g', nx', h1, h2, h3⟩ := h'
      exact ⟨⟨(y, nx', g'), h1⟩, h2, h3⟩
    | _ => exact h'
  refine ACode.weak ?_ (ACode.rounds I (fun p => meas p.1.1) hround ⟨(x, nx, g), hx⟩)
  refine ⟨rfl, fun t y hy => ?_, hob.symm, fun t e he => lvOk_look hlv t e he, rfl, fun _ _ h => h⟩
  have hy : look (up x ++ sel m keep) t = some y := hy
  rw [look_append] at hy
  cases hut : look (up x) t with
  | none => rw [hut] at hy; exact look_sel _ t y hy
  | some z => rw [hut] at hy; cases hy; exact lookAll_look hu t _ hut
theorem againK_i {pre : α → Nat → Prop} {up : α → List (Nat × AV)} {obs : α → Obs} {lvs : α → Lvs} {meas : α → Nat} {kept m' : List (Nat × AV)} {x : α} {ob' : Obs} {lv' : Lvs} {nx' : Nat} (y : α) (g : Obs) (h1 : pre y nx') (h2 : meas y < meas x) (h3 : lookAll m' (up y ++ kept))
    (h4 : ob' = obs y ++ g) (h5 : lvOk lv' (lvs y)) : againK pre up obs lvs meas kept N lp x (S N m' ob' lv' nx' lp) := ⟨y, g, nx', h1, h2, by subst h4; exact ⟨rfl, lookAll_look h3, rfl, fun t e he => lvOk_look h5 t e he, rfl, fun _ _ h => h⟩⟩
end
theorem get_app_add {α : Type} (a b : List α) (n : Nat) : (a ++ b)[a.length + n]? = b[n]? := by rw [List.getElem?_append_right (by omega), Nat.add_sub_cancel_left]
theorem get_app_len {α : Type} (a c : List α) (z : α) : (a ++ z :: c)[a.length]? = some z := by simp
theorem set_app_add {α : Type} (a b : List α) (n : Nat) (x : α) : (a ++ b).set (a.length + n) x = a ++ b.set n x := by rw [List.set_append_right _ _ (by omega), Nat.add_sub_cancel_left]
theorem set_app_len {α : Type} (a c : List α) (z x : α) : (a ++ z :: c).set a.length x = a ++ x :: c := by rw [List.set_append_right _ _ (Nat.le_refl _)]; simp
theorem bytes_beq (a b : ByteArray) : (a.toList == b.toList) = decide (a = b) := by
  rw [ByteArray.toList_eq, ByteArray.toList_eq]
  by_cases h : a = b
  · simp [h]
  · have : ¬ a.data.toList = b.data.toList := fun e => h (by cases a; cases b; simp at e; simp [e])
    rw [decide_eq_false h]
    exact beq_false_of_ne this
/-- What a function hands back, if only so much is to be told. -/
def finQ (C : Cx) (fn : Func) (Q : AV → Prop) (own : Option (Nat × TypeId)) : Ph → Exit → AS → Prop
  | .on, .ret, s => wpO .on (resL C.P s fn.results.toList) fun _ l => Q (frzT s (erT (tup1 l))) ∧ pu (frzT s (erT (tup1 l))) = true ∧ (own = none ∨ ownOf C.P s 0 fn.resultTypes.toList l = own)
  | .on, .normal, s => wpO .on (resL C.P s fn.results.toList) fun _ l => Q (frzT s (erT (tup1 l))) ∧ pu (frzT s (erT (tup1 l))) = true ∧ (own = none ∨ ownOf C.P s 0 fn.resultTypes.toList l = own)
  | _, _, _ => False
theorem finQ_ret {C : Cx} {fn : Func} {Q : AV → Prop} {own : Option (Nat × TypeId)} {s : AS} : finQ C fn Q own .on .ret s = wpO .on (resL C.P s fn.results.toList) fun _ l => Q (frzT s (erT (tup1 l))) ∧ pu (frzT s (erT (tup1 l))) = true ∧ (own = none ∨ ownOf C.P s 0 fn.resultTypes.toList l = own) := rfl
theorem finQ_normal {C : Cx} {fn : Func} {Q : AV → Prop} {own : Option (Nat × TypeId)} {s : AS} : finQ C fn Q own .on .normal s = wpO .on (resL C.P s fn.results.toList) fun _ l => Q (frzT s (erT (tup1 l))) ∧ pu (frzT s (erT (tup1 l))) = true ∧ (own = none ∨ ownOf C.P s 0 fn.resultTypes.toList l = own) := rfl
theorem ACallQ.wpl {C : Cx} {f : FuncId} {fn : Func} {c : Code} {args : List AV} {Q : AV → Prop} {own : Option (Nat × TypeId)} (hf : C.P.funcs[f]? = some fn) (hname : (fn.name == "runtime.NumGoroutine") = false) (hb : fn.body = some c) (hn : decide (args.length ≤ fn.ntmps) = true)
    (h : Lens (S fn.ntmps (argsM 0 args) [] [] 3 nolp) → wpC .on C none c (S fn.ntmps (argsM 0 args) [] [] 3 nolp) (finQ C fn Q own)) : ACallQ C f args Q own := by
  refine ACallQ.mk hf hname hb (of_decide_eq_true hn) ?_
  rw [start_S]
  intro E G a w hr
  refine (wpC_ok (h hr.lens)).mono (fun e s' h' => ?_) E G a w hr
  have key : wpO .on (resL C.P s' fn.results.toList) (fun _ l => Q (frzT s' (erT (tup1 l))) ∧ pu (frzT s' (erT (tup1 l))) = true ∧ (own = none ∨ ownOf C.P s' 0 fn.resultTypes.toList l = own)) → ∃ res, Q res ∧ Out C fn s' res own := by
    rintro ⟨l, hl, hq, hp, ho⟩
    exact ⟨_, hq, wpOut_ok ⟨l, hl, rfl, hp, ho⟩⟩
  cases e with
  | normal => exact ⟨.inr rfl, key h'⟩
  | ret => exact ⟨.inl rfl, key h'⟩
  | _ => exact h'.elim
attribute [simp ↓] finQ_ret finQ_normal
attribute [simp] sel lvOk bytes_beq get_app_add get_app_len set_app_add set_app_len
end Go.Proofs.AL
namespace Go.Proofs.AL
open Go Go.RowKit
set_option linter.unusedVariables false
set_option linter.unusedSimpArgs false

/-! ## Rows that are handed on stay as they are from there on -/
def fzv (s : AS) (t : Nat) : AV → AV
  | .own u n => if u = t then frz1 s (.own u n) else .own u n
  | .agg cs => .agg (cs.map fun x => match x with | .own u n => if u = t then frz1 s (.own u n) else .own u n | x => x)
  | x => x
section
variable {C : Cx} {E : Env} {G : Gh} {s : AS} {a : Act} {w : World}
/-- From here on nobody writes to the row. -/
theorem Rel.freeze (h : Rel C E G s a w) {t : Nat} {e : TypeId} {xs : List (List AV)} (ht : s.live t = some (.row e xs)) :
    ∃ G', Rel C E G' (s.drop t) a w ∧ Mo G w G' w ∧ (∀ b, b < w.heap.size → b < E.w0.heap.size → G'.m b = G.m b) ∧ ∀ (n : Nat) (v : Value), V G w (.own t n) v → xs.length = n → V G' w (.sl 0 (xs.map (·.map er1))) v := by
  obtain ⟨v0, hv, hrow⟩ := h.lv t _ ht
  rcases hrow with ⟨e0, hx0⟩ | ⟨g, n, c, size, cur, h2, h3, h4, h5, h6, h7, h8, h9, h10, h11, h12, h13, h14⟩
  · subst hx0
    refine ⟨G, h.dropTok t, Mo.refl _ _, fun _ _ _ => rfl, fun n v hV hn => ?_⟩
    cases hV with
    | @own _ _ c A q1 q2 =>
      have : n = 0 := by simpa using hn.symm
      subst this
      exact .sl0 (.inl rfl)
  · have hgl : g < w.heap.size := (Array.getElem?_eq_some_iff.1 h4).1
    have mo : Mo G w { G with m := fun b => if b = g then n * size else G.m b } w := ⟨fun b o v q1 q2 => ⟨by
      show o < (if b = g then n * size else G.m b)
      by_cases hb : b = g
      · subst hb; omega
      · rw [if_neg hb]; exact q1, q2⟩, fun _ _ e => e, fun _ _ e => e, fun _ h => h, fun _ h => h⟩
    have hr := h.dropTok t
    refine ⟨{ G with m := fun b => if b = g then n * size else G.m b }, { hr with tm := ?_, m0 := ?_, mz := ?_, ob := ?_, lv := ?_, mo := hr.mo.trans mo, ls := ?_ }, mo, ?_, ?_⟩
    · intro u x hx
      obtain ⟨v, q1, q2⟩ := hr.tm u x hx
      exact ⟨v, q1, q2.mono mo⟩
    · intro l r u x q1 q2
      obtain ⟨v, e1, e2⟩ := hr.ls l r u x q1 q2
      exact ⟨v, e1, e2.mono mo⟩
    · intro b hb
      show (if b = g then n * size else G.m b) = E.m0 b
      rw [if_neg (by omega)]; exact h.m0 b hb
    · intro b hb
      show (if b = g then n * size else G.m b) = 0
      rw [if_neg (by omega)]; exact h.mz b hb
    · intro i cs b hi hb
      obtain ⟨a1, a2, a3⟩ := h.ob i cs b hi hb
      refine ⟨a1, a2.keep ?_ rfl, a3.mono mo rfl⟩
      show (if b = g then n * size else G.m b) = G.m b
      rw [if_neg (by rintro rfl; exact h11 i hb)]
    · intro u k hu
      obtain ⟨v, b1, b2⟩ := hr.lv u k hu
      refine ⟨v, b1, b2.keep mo (fun g' hg' hn' _ => ⟨rfl, ?_, hn'⟩)⟩
      show (if g' = g then n * size else G.m g') = G.m g'
      rw [if_neg ?_]
      rintro rfl
      have hu : (if u = t then none else s.live u) = some k := hu
      by_cases q : u = t
      · rw [if_pos q] at hu; cases hu
      · rw [if_neg q] at hu
        exact q (h.ld u t k _ v _ g' hu ht b1 hv hg' (by rw [h2]; rfl))
    · intro b _ hb
      show (if b = g then n * size else G.m b) = G.m b
      rw [if_neg (by omega)]
    · intro n' v hV hn
      cases hV with
      | @own _ _ c' A q1 q2 =>
        rw [hv, h2] at q2
        cases q2
        rcases Nat.eq_zero_or_pos xs.length with hz | hpos
        · have hnil : xs = [] := List.eq_nil_of_length_eq_zero hz
          subst hnil
          have : n = 0 := by simpa using hn.symm
          subst this
          exact .sl0 (.inl rfl)
        · have hin : ∀ (j i : Nat) (el : List AV) (x : AV), (xs.map (·.map er1))[j]? = some el → el[i]? = some x → ∃ el0 y, xs[j]? = some el0 ∧ el0[i]? = some y ∧ x = er1 y ∧ cur[j * size + i]? = some ((cur[j * size + i]?).getD undef) ∧ j * size + i < xs.length * size := by
            intro j i el x hj hi
            rw [List.getElem?_map] at hj
            obtain ⟨el0, hj0, rfl⟩ := Option.map_eq_some_iff.1 hj
            rw [List.getElem?_map] at hi
            obtain ⟨y, hy, rfl⟩ := Option.map_eq_some_iff.1 hi
            have hjl := (List.getElem?_eq_some_iff.1 hj0).1
            have hil := (List.getElem?_eq_some_iff.1 hy).1
            rw [h13 el0 (List.mem_of_getElem? hj0)] at hil
            have hjs : (j + 1) * size ≤ xs.length * size := Nat.mul_le_mul_right _ (by omega)
            have hjc : xs.length * size ≤ c * size := Nat.mul_le_mul_right _ (by omega)
            rw [Nat.add_mul] at hjs
            have hlt : j * size + i < cur.size := by omega
            exact ⟨el0, y, hj0, hy, rfl, by rw [Array.getElem?_eq_getElem hlt]; rfl, by omega⟩
          refine .sl (fun j i => (cur[j * size + i]?).getD undef) (by omega) (by simp [h12]) h5 h6 h8 (fun el hel => ?_) (.inl rfl) (fun j i el x hj hi => ?_) (fun j i el x hj hi => ?_)
          · obtain ⟨el0, h0', rfl⟩ := List.mem_map.1 hel
            rw [List.length_map]; exact h13 el0 h0'
          · obtain ⟨el0, y, k1, k2, rfl, k4, k5⟩ := hin j i el x hj hi
            refine ⟨?_, by rw [cell_of_heap h4, Nat.zero_add]; exact k4, (h14 j i el0 y _ k1 k2 k4).2⟩
            show 0 + (j * size + i) < (if g = g then n * size else G.m g)
            rw [if_pos rfl, h12]; omega
          · obtain ⟨el0, y, k1, k2, rfl, k4, k5⟩ := hin j i el x hj hi
            exact ((h14 j i el0 y _ k1 k2 k4).1.mono mo).er1
theorem fzv_ok {G' : Gh} {t : Nat} {e : TypeId} {xs : List (List AV)} (ht : s.live t = some (.row e xs)) (mo : Mo G w G' w) (hf : ∀ (n : Nat) (v : Value), V G w (.own t n) v → xs.length = n → V G' w (.sl 0 (xs.map (·.map er1))) v) {x : AV} {v : Value} (hV : V G w x v) : V G' w (fzv s t x) v := by
  have one : ∀ {u n : Nat} {v : Value}, V G w (.own u n) v → V G' w (if u = t then frz1 s (.own u n) else .own u n) v := by
    intro u n v hV
    by_cases q : u = t
    · subst q
      rw [if_pos rfl]
      show V G' w (match rowOf (s.live u) with
        | some q => if q.2.length = n then .sl 0 (q.2.map (·.map er1)) else .own u n
        | none => .own u n) v
      rw [ht]
      show V G' w (if xs.length = n then .sl 0 (xs.map (·.map er1)) else .own u n) v
      split
      · rename_i hn; exact hf n v hV hn
      · exact hV.mono mo
    · rw [if_neg q]; exact hV.mono mo
  cases x with
  | own u n => exact one hV
  | agg cs =>
    obtain ⟨vs, rfl, hl, hv⟩ := hV.agg_inv
    refine VL.agg ⟨by simpa using hl, fun i x v hx hv' => ?_⟩
    rw [List.getElem?_map] at hx
    obtain ⟨y, hy, rfl⟩ := Option.map_eq_some_iff.1 hx
    refine ⟨?_, (hv i y v hy hv').2⟩
    have h1 := (hv i y v hy hv').1
    cases y with
    | own u n => exact one h1
    | _ => exact h1.mono mo
  | _ => exact hV.mono mo
/-- A call of a function that only reads, with a row in hand. -/
theorem JCall.ofA {f : FuncId} {args : List AV} {res : AV} {own : Option (Nat × TypeId)} (t : Nat) {e : TypeId} {xs : List (List AV)} (ht : s.live t = some (.row e xs)) (hp : ∀ x ∈ args, Pu (er (fzv s t x))) (h : ACall C f ((args.map (fzv s t)).map er) res own) :
    JCall C f args s (fun r s2 => r = res ∧ s2 = s.drop t) := by
  refine ⟨h.1, fun E G a w vs hR hlen hV => ?_⟩
  obtain ⟨G1, h1, mo1, _, hf⟩ := hR.freeze ht
  have hgi : C.GI G1.m w := C.st _ _ _ _ h1.be h1.m0 h1.gi
  refine (h.2 G1.m w vs hgi h1.mz (by simpa using hlen) (fun i x v hx hv => ?_)).mono ?_
  · rw [List.getElem?_map, List.getElem?_map] at hx
    obtain ⟨y, hy, rfl⟩ := Option.map_eq_some_iff.1 hx
    obtain ⟨z, hz, rfl⟩ := Option.map_eq_some_iff.1 hy
    exact (fzv_ok ht mo1 hf (hV i z v hz hv)).er.pure h1.t1 (hp z (List.mem_of_getElem? hz))
  · rintro e' w' ⟨v, m', rfl, hb, hm, hz, hres, hown⟩
    have hgrow := h1.grow (m' := m') hb hm hz
    have mo2 : Mo (gh1 m') w' { G1 with m := m' } w' := ⟨fun _ _ _ a b => ⟨a, b⟩, fun i b e => by simp [gh1] at e, (fun t v e => by
      have e : tk1 t = some v := e
      unfold tk1 at e
      split at e
      · rename_i ht; subst ht; rw [← e]; exact h1.t1
      · cases e), fun _ h => h, fun _ h => h⟩
    exact ⟨v, res, s.drop t, _, rfl, ⟨rfl, rfl⟩, hgrow, hres.mono mo2⟩
/-- The mark that rows are to be written to: appending to none makes such a row. -/
theorem Rel.flag (h : Rel C E G s a w) (T : TypeId) : ∃ G', Rel C E G' { s with live := fun t => if t = 0 then some (.ty T) else s.live t } a w := by
  have key : ∀ G' : Gh, G'.m = G.m → G'.blk = G.blk → (∀ t, t ≠ 0 → G'.tk t = G.tk t) → G'.tk 0 = some nilSl → (∀ v, G.tk 0 = some v → G'.tk 0 = some v) → Rel C E G' { s with live := fun t => if t = 0 then some (.ty T) else s.live t } a w := by
    intro G' e1 e2 e3 e4 e5
    have mo : Mo G w G' w := ⟨fun b o v q1 q2 => ⟨by rw [e1]; exact q1, q2⟩, fun i b q => by rw [e2]; exact q, fun t v q => by
      by_cases ht : t = 0
      · subst ht; exact e5 v q
      · rw [e3 t ht]; exact q, fun _ h => h, fun _ h => h⟩
    have hlive : ∀ (t : Nat) (k : Tk), (if t = 0 then some (Tk.ty T) else s.live t) = some k → (t = 0 ∧ k = .ty T) ∨ (t ≠ 0 ∧ s.live t = some k) := by
      intro t k hk
      by_cases q : t = 0
      · rw [if_pos q] at hk; cases hk; exact .inl ⟨q, rfl⟩
      · rw [if_neg q] at hk; exact .inr ⟨q, hk⟩
    refine { h with t0 := .inr e4, t1 := (by rw [e3 1 (by decide)]; exact h.t1), tm := ?_, m0 := (by rw [e1]; exact h.m0), mz := (by rw [e1]; exact h.mz), ol := (by rw [e2]; exact h.ol), od := (by rw [e2]; exact h.od), ob := ?_, lv := ?_, ld := ?_, fr := ?_, mo := h.mo.trans mo, ls := ?_ }
    · intro t x hx
      obtain ⟨v, q1, q2⟩ := h.tm t x hx
      exact ⟨v, q1, q2.mono mo⟩
    · intro l r t x q1 q2
      obtain ⟨v, k1, k2⟩ := h.ls l r t x q1 q2
      exact ⟨v, k1, k2.mono mo⟩
    · intro i cs b hi hb
      rw [e2] at hb
      obtain ⟨a1, a2, a3⟩ := h.ob i cs b hi hb
      exact ⟨a1, a2.keep (by rw [e1]) rfl, a3.mono mo rfl⟩
    · intro t ht
      have ht : s.next ≤ t := ht
      rw [e3 t (by have := h.ne; omega)]; exact h.fr t ht
    · intro t k hk
      rcases hlive t k hk with ⟨rfl, rfl⟩ | ⟨hne, hk⟩
      · exact ⟨nilSl, e4, .inl rfl⟩
      · obtain ⟨v, b1, b2⟩ := h.lv t k hk
        exact ⟨v, by rw [e3 t hne]; exact b1, b2.keep mo (fun g _ hn _ => ⟨rfl, by rw [e1], by rw [e2]; exact hn⟩)⟩
    · intro t u k1 k2 v1 v2 g q1 q2 q3 q4 q5 q6
      rcases hlive t k1 q1 with ⟨rfl, rfl⟩ | ⟨hne, q1⟩
      · rw [e4] at q3; cases q3; cases q5
      rcases hlive u k2 q2 with ⟨rfl, rfl⟩ | ⟨hne', q2⟩
      · rw [e4] at q4; cases q4; cases q6
      rw [e3 t hne] at q3
      rw [e3 u hne'] at q4
      exact h.ld t u k1 k2 v1 v2 g q1 q2 q3 q4 q5 q6
  rcases h.t0 with h0 | h0
  · exact ⟨{ G with tk := fun t => if t = 0 then some nilSl else G.tk t }, key _ rfl rfl (fun t ht => if_neg ht) rfl (fun v q => by rw [h0] at q; cases q)⟩
  · exact ⟨G, key G rfl rfl (fun _ _ => rfl) h0 (fun _ q => q)⟩
theorem ACode.flag {r : Option Nat} {c : Code} {Q : Exit → AS → Prop} (T : TypeId) (h : ACode C r c { s with live := fun t => if t = 0 then some (.ty T) else s.live t } Q) : ACode C r c s Q := fun E G a w hr => by
  obtain ⟨G', h'⟩ := hr.flag T
  exact h E G' a w h'
theorem S_flag {N : Nat} {m : List (Nat × AV)} {ob : List (List AV)} {lv : List (Nat × Tk)} {nx : Nat} {lp : Lps} (T : TypeId) : ({ S N m ob lv nx lp with live := fun t => if t = 0 then some (.ty T) else (S N m ob lv nx lp).live t } : AS) = S N m ob ((0, .ty T) :: lv) nx lp := by
  have e : (fun t => if t = 0 then some (Tk.ty T) else (S N m ob lv nx lp).live t) = look ((0, .ty T) :: lv) := by
    funext t
    show (if t = 0 then some (Tk.ty T) else look lv t) = look ((0, .ty T) :: lv) t
    by_cases h : t = 0
    · subst h; simp [look]
    · have h2 : ¬ 0 = t := fun e => h e.symm
      simp [look, h, h2]
  rw [e]
  rfl
/-- A function in which rows (of elements of the type T) are written to. -/
theorem ACall.wpr {f : FuncId} {fn : Func} {c : Code} {args : List AV} {res : AV} {own : Option (Nat × TypeId)} (T : TypeId) (hf : C.P.funcs[f]? = some fn) (hname : (fn.name == "runtime.NumGoroutine") = false) (hb : fn.body = some c) (hn : decide (args.length ≤ fn.ntmps) = true)
    (h : Lens (S fn.ntmps (argsM 0 args) [] [(0, .ty T)] 3 nolp) → wpC .on C none c (S fn.ntmps (argsM 0 args) [] [(0, .ty T)] 3 nolp) (finC C fn res own)) : ACall C f args res own := by
  refine .wp hf hname hb hn (ACode.flag T ?_)
  rw [S_flag]
  intro E G a w hr
  refine (wpC_ok (h hr.lens)).mono (fun e s' h' => ?_) E G a w hr
  cases e with
  | normal => exact ⟨.inr rfl, h'⟩
  | ret => exact ⟨.inl rfl, h'⟩
  | _ => exact h'.elim
end
end Go.Proofs.AL
namespace Go.Proofs.AL
open Go Go.RowKit
set_option linter.unusedVariables false
set_option linter.unusedSimpArgs false

/-! ## Calls with closures over own variables: frozen for the call's time, or for good -/
def frzD (s : AS) : Nat → AV → AV
  | 0, .sl 1 [] => .sl 1 []
  | 0, .sl 2 [] => .sl 2 []
  | 0, .sl _ xs => .sl 0 xs
  | 0, x => x
  | k + 1, .ptr id off => match s.ob[id]? with
    | some cs => .cptr ((cs.drop off).map (frzD s k))
    | none => .ptr id off
  | k + 1, .own t n => match rowOf (s.live t) with
    | some q => if q.2.length = n then .sl 0 (q.2.map (·.map (frzD s k))) else .own t n
    | none => .own t n
  | k + 1, .fn f a b => .fn f (a.map (frzD s k)) (b.map (frzD s k))
  | k + 1, .agg cs => .agg (cs.map (frzD s k))
  | k + 1, .cptr cs => .cptr (cs.map (frzD s k))
  | _ + 1, .sl 1 [] => .sl 1 []
  | _ + 1, .sl 2 [] => .sl 2 []
  | _ + 1, .sl _ xs => .sl 0 xs
  | _ + 1, x => x
section
variable {C : Cx} {E : Env} {G : Gh} {s : AS} {a : Act} {w : World}
theorem V.sl0_of {t : Nat} {xs : List (List AV)} {v : Value} (h : V G w (.sl t xs) v) : V G w (.sl 0 xs) v := h.er1
theorem frzD_sl {k t : Nat} {xs : List (List AV)} : frzD s k (.sl t xs) = .sl t xs ∨ frzD s k (.sl t xs) = .sl 0 xs := by
  cases k with
  | zero => unfold frzD; split <;> simp_all
  | succ k => unfold frzD; split <;> simp_all
theorem Rel.frzD (h : Rel C E G s a w) : ∀ (k : Nat) {x : AV} {v : Value}, V G w x v → V (frG s G w) w (AL.frzD s k x) v
  | 0, x, v, hV => by
    cases x with
    | sl t xs =>
      rcases frzD_sl (s := s) (k := 0) (t := t) (xs := xs) with e | e <;> rw [e]
      · exact hV.mono h.frMo
      · exact (hV.mono h.frMo).sl0_of
    | _ => exact hV.mono h.frMo
  | k + 1, x, v, hV => by
    cases hV with
    | @ptr id off b hb hkc =>
      show V (frG s G w) w (match s.ob[id]? with
        | some cs => .cptr ((cs.drop off).map (AL.frzD s k))
        | none => .ptr id off) _
      cases e2 : s.ob[id]? with
      | none => exact .ptr hb hkc
      | some cs =>
        show V (frG s G w) w (.cptr ((cs.drop off).map (AL.frzD s k))) _
        obtain ⟨o1, o2, oo⟩ := h.ob id cs b e2 hb
        obtain ⟨cur, T, o3, o4, o5⟩ := oo.cells hkc
        have key : ∀ (i : Nat) (x : AV), ((cs.drop off).map (AL.frzD s k))[i]? = some x → ∃ y, x = AL.frzD s k y ∧ cs[off + i]? = some y ∧ cur[off + i]? = some ((cur[off + i]?).getD undef) := by
          intro i x hx
          rw [List.getElem?_map] at hx
          obtain ⟨y, hy, rfl⟩ := Option.map_eq_some_iff.1 hx
          rw [List.getElem?_drop] at hy
          have hl := (List.getElem?_eq_some_iff.1 hy).1
          have hl' : off + i < cur.size := by omega
          exact ⟨y, rfl, hy, by rw [Array.getElem?_eq_getElem hl']; rfl⟩
        refine .cptr (fun i => (cur[off + i]?).getD undef) (fun i x hx => ?_) (fun i x hx => ?_)
        · obtain ⟨y, rfl, hy, hc⟩ := key i x hx
          have hl := (Array.getElem?_eq_some_iff.1 hc).1
          refine ⟨?_, by rw [cell_of_heap o3]; exact hc, (o5 _ y _ hy hc).2⟩
          show off + i < (if b ∈ G.blk ∨ rowBlk s G b then blkSz w b else G.m b)
          rw [if_pos (.inl (List.mem_of_getElem? hb))]
          unfold blkSz
          rw [o3]; exact hl
        · obtain ⟨y, rfl, hy, hc⟩ := key i x hx
          exact Rel.frzD h k (o5 _ y _ hy hc).1
    | int k n => exact .int k n
    | bool b => exact .bool b
    | str s => exact .str s
    | @agg cs vs a b c =>
      show V (frG s G w) w (.agg (cs.map (AL.frzD s k))) _
      refine .agg (by simpa using a) (fun i c' hc v' hv' => ?_) c
      rw [List.getElem?_map] at hc
      obtain ⟨y, hy, rfl⟩ := Option.map_eq_some_iff.1 hc
      exact Rel.frzD h k (b i y hy v' hv')
    | tup a b => exact (V.tup a b).mono h.frMo
    | @sl0 t A c e =>
      rcases frzD_sl (s := s) (k := k + 1) (t := t) (xs := []) with e' | e' <;> rw [e']
      · exact (V.sl0 e).mono h.frMo
      · exact ((V.sl0 e).mono h.frMo).sl0_of
    | @sl t xs _ _ _ _ _ f a b c d e g h' i j =>
      rcases frzD_sl (s := s) (k := k + 1) (t := t) (xs := xs) with e' | e' <;> rw [e']
      · exact (V.sl f a b c d e g h' i j).mono h.frMo
      · exact ((V.sl f a b c d e g h' i j).mono h.frMo).sl0_of
    | @cptr cs b o f h1 h2 =>
      show V (frG s G w) w (.cptr (cs.map (AL.frzD s k))) _
      refine .cptr f (fun i x hx => ?_) (fun i x hx => ?_)
      · rw [List.getElem?_map] at hx
        obtain ⟨y, hy, rfl⟩ := Option.map_eq_some_iff.1 hx
        obtain ⟨q1, q2, q3⟩ := h1 i y hy
        exact ⟨(h.frMo.cell _ _ _ q1 q2).1, q2, q3⟩
      · rw [List.getElem?_map] at hx
        obtain ⟨y, hy, rfl⟩ := Option.map_eq_some_iff.1 hx
        exact Rel.frzD h k (h2 i y hy)
    | nilp => exact .nilp
    | @fn f first cap vs us h1 h2 h3 h4 =>
      show V (frG s G w) w (.fn f (first.map (AL.frzD s k)) (cap.map (AL.frzD s k))) _
      refine .fn (by simpa using h1) (by simpa using h2) (fun i c hc u hu => ?_) (fun i c hc u hu => ?_)
      · rw [List.getElem?_map] at hc
        obtain ⟨y, hy, rfl⟩ := Option.map_eq_some_iff.1 hc
        exact Rel.frzD h k (h3 i y hy u hu)
      · rw [List.getElem?_map] at hc
        obtain ⟨y, hy, rfl⟩ := Option.map_eq_some_iff.1 hc
        exact Rel.frzD h k (h4 i y hy u hu)
    | nilf => exact .nilf
    | @own t n c A h0 ha =>
      show V (frG s G w) w (match rowOf (s.live t) with
        | some q => if q.2.length = n then .sl 0 (q.2.map (·.map (AL.frzD s k))) else .own t n
        | none => .own t n) _
      cases hq : rowOf (s.live t) with
      | none => exact (V.own h0 ha).mono h.frMo
      | some q =>
        obtain ⟨e, xs⟩ := q
        dsimp only
        split
        case isFalse => exact (V.own h0 ha).mono h.frMo
        rename_i hn
        have hlive := rowOf_ok hq
        dsimp only at hlive hn
        rcases h.rowAt hlive ha with ⟨e0, hx0⟩ | ⟨g, n', c', size, cur, h2, h3, h4, h5, h6, h7, h8, h9, h10, h11, h12, h13, h14⟩
        · subst hx0
          have hn0 : n = 0 := by simpa using hn.symm
          subst hn0
          exact .sl0 (.inl rfl)
        · injection h2 with q1 q2 q3
          subst q1; subst q2; subst q3
          rcases Nat.eq_zero_or_pos xs.length with hz | hpos
          · have hnil : xs = [] := List.eq_nil_of_length_eq_zero hz
            subst hnil
            have hn0 : n = 0 := by simpa using hn.symm
            subst hn0
            exact .sl0 (.inl rfl)
          have hin : ∀ (j i : Nat) (el : List AV) (x : AV), (xs.map (·.map (AL.frzD s k)))[j]? = some el → el[i]? = some x → ∃ el0 y, xs[j]? = some el0 ∧ el0[i]? = some y ∧ x = AL.frzD s k y ∧ cur[j * size + i]? = some ((cur[j * size + i]?).getD undef) ∧ j * size + i < cur.size := by
            intro j i el x hj hi
            rw [List.getElem?_map] at hj
            obtain ⟨el0, hj0, rfl⟩ := Option.map_eq_some_iff.1 hj
            rw [List.getElem?_map] at hi
            obtain ⟨y, hy, rfl⟩ := Option.map_eq_some_iff.1 hi
            have hjl := (List.getElem?_eq_some_iff.1 hj0).1
            have hil := (List.getElem?_eq_some_iff.1 hy).1
            rw [h13 el0 (List.mem_of_getElem? hj0)] at hil
            have hjs : (j + 1) * size ≤ c * size := Nat.mul_le_mul_right _ (by omega)
            rw [Nat.add_mul] at hjs
            have hlt : j * size + i < cur.size := by omega
            exact ⟨el0, y, hj0, hy, rfl, by rw [Array.getElem?_eq_getElem hlt]; rfl, hlt⟩
          refine .sl (fun j i => (cur[j * size + i]?).getD undef) (by omega) (by simp [h12]) h5 h6 h8 (fun el hel => ?_) (.inl rfl) (fun j i el x hj hi => ?_) (fun j i el x hj hi => ?_)
          · obtain ⟨el0, h0', rfl⟩ := List.mem_map.1 hel
            rw [List.length_map]; exact h13 el0 h0'
          · obtain ⟨el0, y, k1, k2, rfl, k4, k5⟩ := hin j i el x hj hi
            refine ⟨?_, by rw [cell_of_heap h4, Nat.zero_add]; exact k4, (h14 j i el0 y _ k1 k2 k4).2⟩
            show 0 + (j * size + i) < (if g ∈ G.blk ∨ rowBlk s G g then blkSz w g else G.m g)
            rw [if_pos (.inr ⟨t, e, xs, _, hlive, ha, rfl⟩)]
            unfold blkSz
            rw [h4]; dsimp only; omega
          · obtain ⟨el0, y, k1, k2, rfl, k4, k5⟩ := hin j i el x hj hi
            exact Rel.frzD h k (h14 j i el0 y _ k1 k2 k4).1
    | eptr a => exact (V.eptr a).mono h.frMo
    | mp a b => exact (V.mp a b).mono h.frMo
    | nilm => exact .nilm
    | ifc a => exact (V.ifc a).mono h.frMo
    | nili => exact .nili
    | opq a =>
      have : AL.frzD s (k + 1) .opq = .opq := by simp [AL.frzD]
      rw [this]; exact .opq a
    | tp0 a b =>
      have : ∀ i t n u, AL.frzD s (k + 1) (.tp i t n u) = .tp i t n u := fun _ _ _ _ => by simp [AL.frzD]
      rw [this]; exact (V.tp0 a b).mono h.frMo
    | tp1 a b =>
      have : ∀ i t n u, AL.frzD s (k + 1) (.tp i t n u) = .tp i t n u := fun _ _ _ _ => by simp [AL.frzD]
      rw [this]; exact (V.tp1 a b).mono h.frMo
mutual
theorem frzD_pu : ∀ (k : Nat) (x : AV), pu x = true → frzD s k x = x
  | k, .int _ _, _ => by cases k <;> simp [frzD]
  | k, .bool _, _ => by cases k <;> simp [frzD]
  | k, .str _, _ => by cases k <;> simp [frzD]
  | 0, .agg cs, h => by simp [frzD]
  | k + 1, .agg cs, h => by simp only [frzD]; rw [frzD_puL k cs (by simpa [pu] using h)]
  | k, .tup cs, h => by cases k <;> simp [frzD]
  | k, .sl t xs, h => by
    simp only [pu, Bool.or_eq_true, Bool.and_eq_true, beq_iff_eq, List.isEmpty_iff] at h
    rcases h with ⟨rfl, h⟩ | ⟨rfl | rfl, rfl⟩ <;> cases k <;> simp [frzD]
  | 0, .cptr cs, h => by simp [frzD]
  | k + 1, .cptr cs, h => by simp only [frzD]; rw [frzD_puL k cs (by simpa [pu] using h)]
  | k, .ptr _ _, h => by simp [pu] at h
  | k, .nilp, _ => by cases k <;> simp [frzD]
  | 0, .fn f fs cs, h => by simp [frzD]
  | k + 1, .fn f fs cs, h => by
    simp only [pu, Bool.and_eq_true] at h
    simp only [frzD]
    rw [frzD_puL k fs h.1, frzD_puL k cs h.2]
  | k, .nilf, _ => by cases k <;> simp [frzD]
  | k, .own _ _, h => by simp [pu] at h
  | k, .eptr _ _ _ _, h => by simp [pu] at h
  | k, .mp _, h => by simp [pu] at h
  | k, .nilm, _ => by cases k <;> simp [frzD]
  | k, .mpo _ _, h => by simp [pu] at h
  | k, .ifc _ x, h => by cases k <;> simp [frzD]
  | k, .nili, _ => by cases k <;> simp [frzD]
  | k, .opq, _ => by cases k <;> simp [frzD]
  | k, .tp _ _ _ _, h => by simp [pu] at h
theorem frzD_puL : ∀ (k : Nat) (l : List AV), puL l = true → l.map (frzD s k) = l
  | _, [], _ => rfl
  | k, x :: l, h => by
    simp only [puL, Bool.and_eq_true] at h
    rw [List.map_cons, frzD_pu k x h.1, frzD_puL k l h.2]
end
mutual
def AV.scalar : AV → Bool
  | .int _ _ => true
  | .bool _ => true
  | .str _ => true
  | .nilp => true
  | .tup vs => AV.scalarL vs
  | _ => false
def AV.scalarL : List AV → Bool
  | [] => true
  | x :: l => AV.scalar x && AV.scalarL l
end
theorem AV.scalarL_mem : ∀ {l : List AV}, AV.scalarL l = true → ∀ x ∈ l, AV.scalar x = true
  | [], _, _, h => by cases h
  | y :: l, h, x, hx => by
    simp only [AV.scalarL, Bool.and_eq_true] at h
    rcases List.mem_cons.1 hx with rfl | hx
    · exact h.1
    · exact AV.scalarL_mem h.2 x hx
theorem V.scalar {G' : Gh} {w' : World} {x : AV} {v : Value} (h : V G w x v) : x.scalar = true → V G' w' x v := by
  induction h with
  | int k n => exact fun _ => .int k n
  | bool b => exact fun _ => .bool b
  | str s => exact fun _ => .str s
  | nilp => exact fun _ => .nilp
  | tup h1 _ ih => exact fun hs => .tup h1 (fun i c hc v hv => ih i c hc v hv (AV.scalarL_mem (by simpa [AV.scalar] using hs) c (List.mem_of_getElem? hc)))
  | _ => intro hs; simp [AV.scalar] at hs
theorem frG_m0 (h : Rel C E G s a w) (b : Nat) (hb : w.heap.size ≤ b) : (frG s G w).m b = 0 := by
  show (if b ∈ G.blk ∨ rowBlk s G b then blkSz w b else G.m b) = 0
  rw [if_neg ?_]
  · exact h.mz b hb
  rintro (hh | hh)
  · obtain ⟨i, cs, _, h2⟩ := h.ofBlk hh
    have := h.lt h2
    omega
  · have := (h.rowBlk_facts hh).2.1
    omega
theorem frG_old (h : Rel C E G s a w) (b : Nat) (hb : b < E.w0.heap.size) : (frG s G w).m b = E.m0 b := by
  show (if b ∈ G.blk ∨ rowBlk s G b then blkSz w b else G.m b) = _
  rw [if_neg]
  · exact h.m0 b hb
  rintro (hh | hh)
  · obtain ⟨i, cs, e1, e2⟩ := h.ofBlk hh
    have := (h.ob i cs b e1 e2).1
    omega
  · have := (h.rowBlk_facts hh).1
    omega
/-- Own variables stay as they are for the call's time: what it hands back leads to nothing. -/
theorem JCall.ofS {f : FuncId} {args : List AV} {res : AV} {own : Option (Nat × TypeId)} (k : Nat) (hp : ∀ x ∈ args, Pu (er (frzD s k x))) (hs : res.scalar = true) (h : ACall C f ((args.map (frzD s k)).map er) res own) : JCall C f args s (fun r s2 => r = res ∧ s2 = s) := by
  refine ⟨h.1, fun E G a w vs hR hlen hV => ?_⟩
  have hgi : C.GI (frG s G w).m w := C.st _ _ _ _ hR.be (frG_old hR) hR.gi
  refine (h.2 (frG s G w).m w vs hgi (frG_m0 hR) (by simpa using hlen) (fun i x v hx hv => ?_)).mono ?_
  · rw [List.getElem?_map, List.getElem?_map] at hx
    obtain ⟨y, hy, rfl⟩ := Option.map_eq_some_iff.1 hx
    obtain ⟨z, hz, rfl⟩ := Option.map_eq_some_iff.1 hy
    exact V.pure (G := frG s G w) hR.t1 (hR.frzD k (hV i z v hz hv)).er (hp z (List.mem_of_getElem? hz))
  · rintro e' w' ⟨v, m', rfl, hb, hm, hz, hres, hown⟩
    have hgrow := hR.grow (m' := fun b => if b < w.heap.size then G.m b else m' b) hb (fun b hb' => if_pos hb') (fun b hb' => by
      have h1 := hz b hb'
      have h2 := hb.size
      rw [if_neg (by omega)]; exact h1)
    exact ⟨v, res, s, _, rfl, ⟨rfl, rfl⟩, hgrow, hres.scalar hs⟩
/-- A call with arguments that lead to nothing that is written. -/
theorem JCall.ofP {f : FuncId} {args : List AV} {res : AV} {own : Option (Nat × TypeId)} (hp : ∀ x ∈ args, Pu (er x)) (h : ACall C f (args.map er) res own) : JCall C f args s (fun r s2 => r = res ∧ s2 = s) := by
  refine ⟨h.1, fun E G a w vs hR hlen hV => ?_⟩
  have hgi : C.GI G.m w := C.st _ _ _ _ hR.be hR.m0 hR.gi
  refine (h.2 G.m w vs hgi hR.mz (by simpa using hlen) (fun i x v hx hv => ?_)).mono ?_
  · rw [List.getElem?_map] at hx
    obtain ⟨y, hy, rfl⟩ := Option.map_eq_some_iff.1 hx
    exact (hV i y v hy hv).er.pure hR.t1 (hp y (List.mem_of_getElem? hy))
  · rintro e' w' ⟨v, m', rfl, hb, hm, hz, hres, hown⟩
    have hgrow := hR.grow (m' := m') hb hm hz
    have mo2 : Mo (gh1 m') w' { G with m := m' } w' := ⟨fun _ _ _ a b => ⟨a, b⟩, fun i b e => by simp [gh1] at e, (fun t v e => by
      have e : tk1 t = some v := e
      unfold tk1 at e
      split at e
      · rename_i ht; subst ht; rw [← e]; exact hR.t1
      · cases e), fun _ h => h, fun _ h => h⟩
    exact ⟨v, res, s, _, rfl, ⟨rfl, rfl⟩, hgrow, hres.mono mo2⟩
/-! ### for good -/
def kz1 (id : Nat) (cs : List AV) : AV → AV
  | .ptr i off => if i = id then .cptr ((cs.drop off).map er1) else .ptr i off
  | x => x
def kz (id : Nat) (cs : List AV) : AV → AV
  | .fn f a b => .fn f (a.map (kz1 id cs)) (b.map (kz1 id cs))
  | .ptr i off => if i = id then .cptr ((cs.drop off).map er1) else .ptr i off
  | x => x
def noMpo : List AV → Bool
  | [.mpo _ _] => false
  | _ => true
def AS.kill (s : AS) (id : Nat) (cs : List AV) : AS := { s with ob := (s.ob.set id []).map (·.map (kz id cs)) }
theorem Rel.kill (h : Rel C E G s a w) {id : Nat} {cs : List AV} (hs : s.ob[id]? = some cs) (hn : noMpo cs = true) :
    ∃ G', Rel C E G' (s.kill id cs) a w ∧ Mo G w G' w ∧ ∀ (x : AV) (v : Value), V G w x v → V G' w (kz id cs x) v := by
  obtain ⟨b, hb⟩ : ∃ b, G.blk[id]? = some b := by
    have hi := (List.getElem?_eq_some_iff.1 hs).1
    rw [← h.ol] at hi
    exact ⟨_, List.getElem?_eq_getElem hi⟩
  obtain ⟨o1, o2, oo⟩ := h.ob id cs b hs hb
  have oc : CellsOb G w b cs := by
    rcases oo with oo | ⟨ks, vs, es, c, e, _⟩
    · exact oo
    · subst e; simp [noMpo] at hn
  obtain ⟨cur, T, o3, o4, o5⟩ := oc
  have hbs : blkSz w b = cur.size := by unfold blkSz; rw [o3]
  have hlt : b < w.heap.size := (Array.getElem?_eq_some_iff.1 o3).1
  have mo : Mo G w { G with m := fun k => if k = b then blkSz w b else G.m k } w := ⟨fun k o v q1 q2 => ⟨by
    show o < (if k = b then blkSz w b else G.m k)
    by_cases e : k = b
    · subst e
      rw [if_pos rfl]
      rcases o2 with o2 | ⟨_, o2⟩ <;> omega
    · rw [if_neg e]; exact q1, q2⟩, fun _ _ e => e, fun _ _ e => e, fun _ h => h, fun _ h => h⟩
  have cv1 : ∀ (x : AV) (v : Value), V G w x v → V { G with m := fun k => if k = b then blkSz w b else G.m k } w (kz1 id cs x) v := by
    intro x v hV
    cases x with
    | ptr i off =>
      cases hV with
      | @ptr _ _ b' hb' hkc =>
        show V _ w (if i = id then .cptr ((cs.drop off).map AL.er1) else .ptr i off) _
        by_cases e : i = id
        · subst e
          rw [if_pos rfl]
          rw [hb] at hb'
          cases hb'
          have key : ∀ (j : Nat) (x : AV), ((cs.drop off).map AL.er1)[j]? = some x → ∃ y, x = AL.er1 y ∧ cs[off + j]? = some y ∧ cur[off + j]? = some ((cur[off + j]?).getD undef) := by
            intro j x hx
            rw [List.getElem?_map] at hx
            obtain ⟨y, hy, rfl⟩ := Option.map_eq_some_iff.1 hx
            rw [List.getElem?_drop] at hy
            have hl := (List.getElem?_eq_some_iff.1 hy).1
            have hl' : off + j < cur.size := by omega
            exact ⟨y, rfl, hy, by rw [Array.getElem?_eq_getElem hl']; rfl⟩
          refine .cptr (fun i => (cur[off + i]?).getD undef) (fun i x hx => ?_) (fun i x hx => ?_)
          · obtain ⟨y, rfl, hy, hc⟩ := key i x hx
            have hl := (Array.getElem?_eq_some_iff.1 hc).1
            refine ⟨?_, by rw [cell_of_heap o3]; exact hc, (o5 _ y _ hy hc).2⟩
            show off + i < (if b = b then blkSz w b else G.m b)
            rw [if_pos rfl, hbs]; exact hl
          · obtain ⟨y, rfl, hy, hc⟩ := key i x hx
            exact ((o5 _ y _ hy hc).1.mono mo).er1
        · rw [if_neg e]; exact .ptr hb' hkc
    | _ => exact hV.mono mo
  have cv2 : ∀ (x : AV) (v : Value), V G w x v → V { G with m := fun k => if k = b then blkSz w b else G.m k } w (kz id cs x) v := by
    intro x v hV
    cases x with
    | ptr i off => exact cv1 _ _ hV
    | fn f a b =>
      cases hV with
      | fn h1 h2 h3 h4 =>
        refine .fn (by simpa using h1) (by simpa using h2) (fun i c hc u hu => ?_) (fun i c hc u hu => ?_)
        · rw [List.getElem?_map] at hc
          obtain ⟨y, hy, rfl⟩ := Option.map_eq_some_iff.1 hc
          exact cv1 _ _ (h3 i y hy u hu)
        · rw [List.getElem?_map] at hc
          obtain ⟨y, hy, rfl⟩ := Option.map_eq_some_iff.1 hc
          exact cv1 _ _ (h4 i y hy u hu)
    | _ => exact hV.mono mo
  refine ⟨{ G with m := fun k => if k = b then blkSz w b else G.m k }, { h with tm := ?_, m0 := ?_, mz := ?_, ol := ?_, ob := ?_, lv := ?_, mo := h.mo.trans mo, ls := ?_ }, mo, cv2⟩
  · intro u x hx
    obtain ⟨v, q1, q2⟩ := h.tm u x hx
    exact ⟨v, q1, q2.mono mo⟩
  · intro l r u x q1 q2
    obtain ⟨v, e1, e2⟩ := h.ls l r u x q1 q2
    exact ⟨v, e1, e2.mono mo⟩
  · intro k hk
    show (if k = b then blkSz w b else G.m k) = E.m0 k
    rw [if_neg (by omega)]; exact h.m0 k hk
  · intro k hk
    show (if k = b then blkSz w b else G.m k) = 0
    rw [if_neg (by omega)]; exact h.mz k hk
  · show G.blk.length = ((s.ob.set id []).map _).length
    simpa using h.ol
  · intro i ds b' hi hb'
    have hi : ((s.ob.set id []).map (·.map (kz id cs)))[i]? = some ds := hi
    rw [List.getElem?_map] at hi
    obtain ⟨ds0, hi0, rfl⟩ := Option.map_eq_some_iff.1 hi
    by_cases e : i = id
    · subst e
      rw [List.getElem?_set_self (List.getElem?_eq_some_iff.1 hs).1] at hi0
      have hds : ds0 = [] := (Option.some.inj hi0).symm
      subst hds
      have hbb : b' = b := by
        have hb' : G.blk[i]? = some b' := hb'
        rw [hb] at hb'; cases hb'; rfl
      subst hbb
      refine ⟨o1, .inr ⟨rfl, ?_⟩, .inl ⟨cur, T, o3, by simp, fun k x v hk => by simp at hk⟩⟩
      show (if b' = b' then blkSz w b' else G.m b') = _
      rw [if_pos rfl]
    · rw [List.getElem?_set_ne (fun e' => e e'.symm)] at hi0
      obtain ⟨a1, a2, a3⟩ := h.ob i ds0 b' hi0 hb'
      have hne : b' ≠ b := fun e' => e (h.od i id b (e' ▸ hb') hb)
      have hm' : (if b' = b then blkSz w b else G.m b') = G.m b' := if_neg hne
      refine ⟨a1, ?_, ?_⟩
      · rcases a2 with a2 | ⟨a2, a2'⟩
        · exact .inl (hm'.trans a2)
        · subst a2; exact .inr ⟨rfl, hm'.trans a2'⟩
      · rcases a3 with ⟨cur', T', e1, e2, e3⟩ | ⟨ks, vs, es, c, e1, e2, e3⟩
        · refine .inl ⟨cur', T', e1, by simpa using e2, fun k x v hk hv => ?_⟩
          rw [List.getElem?_map] at hk
          obtain ⟨y, hy, rfl⟩ := Option.map_eq_some_iff.1 hk
          exact ⟨cv2 _ _ (e3 k y v hy hv).1, (e3 k y v hy hv).2⟩
        · subst e1
          have := (ObOk.mono (.inr ⟨ks, vs, es, c, rfl, e2, e3⟩) mo rfl : ObOk _ w b' [.mpo ks vs])
          exact this
  · intro t e he
    obtain ⟨v, b1, b2⟩ := h.lv t e he
    refine ⟨v, b1, b2.keep mo (fun g hg hn' _ => ⟨rfl, ?_, hn'⟩)⟩
    show (if g = b then blkSz w b else G.m g) = G.m g
    rw [if_neg ?_]
    rintro rfl
    exact hn' id hb
/-- An own variable that nobody writes to any more. -/
theorem JCall.kill {f : FuncId} {args : List AV} {K : AV → AS → Prop} (id : Nat) {cs : List AV} (hs : s.ob[id]? = some cs) (hn : noMpo cs = true) (h : JCall C f (args.map (kz id cs)) (s.kill id cs) K) : JCall C f args s K := by
  refine ⟨h.1, fun E G a w vs hR hlen hV => ?_⟩
  obtain ⟨G', h1, mo1, hz⟩ := hR.kill hs hn
  exact h.2 E G' a w vs h1 (by simpa using hlen) (fun i x v hx hv => by
    rw [List.getElem?_map] at hx
    obtain ⟨y, hy, rfl⟩ := Option.map_eq_some_iff.1 hx
    exact hz y v (hV i y v hy hv))
/-- A row that nobody writes to any more. -/
theorem JCall.frzRow {f : FuncId} {args : List AV} {K : AV → AS → Prop} (t : Nat) {e : TypeId} {xs : List (List AV)} (ht : s.live t = some (.row e xs)) (h : JCall C f (args.map (fzv s t)) (s.drop t) K) : JCall C f args s K := by
  refine ⟨h.1, fun E G a w vs hR hlen hV => ?_⟩
  obtain ⟨G1, h1, mo1, _, hf⟩ := hR.freeze ht
  exact h.2 E G1 a w vs h1 (by simpa using hlen) (fun i x v hx hv => by
    rw [List.getElem?_map] at hx
    obtain ⟨y, hy, rfl⟩ := Option.map_eq_some_iff.1 hx
    exact fzv_ok ht mo1 hf (hV i y v hy hv))
end
section
variable {C : Cx} {N : Nat} {m : List (Nat × AV)} {ob : List (List AV)} {lv : List (Nat × Tk)} {nx : Nat} {lp : Lps}
theorem S_kill {id : Nat} {cs : List AV} : (S N m ob lv nx lp).kill id cs = S N m ((ob.set id []).map (·.map (kz id cs))) lv nx lp := rfl
theorem S_fr {N' N2 : Nat} {m' m2 : List (Nat × AV)} {ob2 : List (List AV)} {lv2 : List (Nat × Tk)} {nx2 : Nat} {lp2 : Lps} : (S N' m' ob lv nx lp).fr N (S N2 m2 ob2 lv2 nx2 lp2).tm = S N m2 ob lv nx lp := rfl
theorem jcallP_kill {g : FuncId} {xs : List AV} {s : AS} {K : Ph → AV → AS → Prop} (id : Nat) {cs : List AV} (hs : s.ob[id]? = some cs) (hn : noMpo cs = true) (h : jcallP C g (xs.map (kz id cs)) (s.kill id cs) K) : jcallP C g xs s K := let ⟨L, h1, h2⟩ := h; ⟨L, .kill id hs hn h1, h2⟩
theorem jcallP_frz {g : FuncId} {xs : List AV} {s : AS} {K : Ph → AV → AS → Prop} (t : Nat) {e : TypeId} {ys : List (List AV)} (ht : s.live t = some (.row e ys)) (h : jcallP C g (xs.map (fzv s t)) (s.drop t) K) : jcallP C g xs s K := let ⟨L, h1, h2⟩ := h; ⟨L, .frzRow t ht h1, h2⟩
/-- A pure function, called by its contract. -/
theorem jcallP_a {g : FuncId} {xs ys : List AV} {s : AS} {K : Ph → AV → AS → Prop} {res : AV} {own : Option (Nat × TypeId)} (h : ACall C g ys res own) (hy : xs.map er = ys) (hp : puL ys = true) (k : K .on res s) : jcallP C g xs s K :=
  ⟨_, .ofP (fun x hx => puL_ok hp _ (hy ▸ List.mem_map_of_mem hx)) (hy ▸ h), by rintro _ _ ⟨rfl, rfl⟩; exact k⟩
/-- A pure function that tells a number, a text, .. -/
theorem jcallP_s {g : FuncId} {xs ys : List AV} {s : AS} {K : Ph → AV → AS → Prop} {res : AV} {own : Option (Nat × TypeId)} (h : ACall C g ys res own) (hy : (xs.map (frzD s 6)).map er = ys) (hp : puL ys = true) (hs : res.scalar = true) (k : K .on res s) : jcallP C g xs s K :=
  ⟨_, .ofS 6 (fun x hx => puL_ok hp _ (hy ▸ List.mem_map_of_mem (List.mem_map_of_mem hx))) hs (hy ▸ h), by rintro _ _ ⟨rfl, rfl⟩; exact k⟩
/-- The function's own code, in the caller's memory. -/
theorem jcallP_in {f : FuncId} {fn : Func} {c : Code} {args : List AV} {K : Ph → AV → AS → Prop} (hf : C.P.funcs[f]? = some fn) (hname : (fn.name == "runtime.NumGoroutine") = false) (hb : fn.body = some c) (hn : decide (args.length ≤ fn.ntmps) = true)
    (h : Lens (S fn.ntmps (argsM 0 args) ob lv nx lp) → wpC .on C none c (S fn.ntmps (argsM 0 args) ob lv nx lp) (finJ C fn (K .on))) : jcallP C f args (S N m ob lv nx lp) K := ⟨_, .wpc hf hname hb hn h, fun _ _ h => h⟩
end
/-- Captured cells that stay. -/
def isCp : AV → Bool
  | .cptr cs => puL cs
  | _ => false
theorem cp_mem {cap : List AV} (h : cap.all isCp = true) {c : AV} (hc : c ∈ cap) : ∃ cs, c = .cptr cs ∧ puL cs = true := by
  have := List.all_eq_true.1 h c hc
  cases c <;> simp [isCp] at this
  exact ⟨_, rfl, this⟩
theorem cp_map {cap : List AV} (h : cap.all isCp = true) (f : AV → AV) (hf : ∀ cs, f (.cptr cs) = .cptr cs) : cap.map f = cap := by
  conv => rhs; rw [← List.map_id cap]
  exact List.map_congr_left (fun c hc => by obtain ⟨cs, rfl, _⟩ := cp_mem h hc; exact hf cs)
theorem cp_er {cap : List AV} (h : cap.all isCp = true) : cap.map er = cap := cp_map h _ (fun _ => rfl)
theorem cp_fzv {cap : List AV} (h : cap.all isCp = true) {s : AS} {t : Nat} : cap.map (fzv s t) = cap := cp_map h _ (fun _ => rfl)
theorem cp_pu : ∀ {cap : List AV}, cap.all isCp = true → puL cap = true
  | [], _ => rfl
  | c :: l, h => by
    obtain ⟨cs, rfl, hc⟩ := cp_mem h (List.mem_cons_self)
    simp only [List.all_cons, Bool.and_eq_true] at h
    simp [puL, pu, hc, cp_pu h.2]
theorem cp_isY {cap : List AV} (h : cap.all isCp = true) : cap.any AV.isY = false := by
  rw [List.any_eq_false]
  intro c hc
  obtain ⟨cs, rfl, _⟩ := cp_mem h hc
  simp [AV.isY]
@[simp high] theorem nilQ_slne {t : Nat} {xs : List (List AV)} (h : xs ≠ []) : nilQ .sl (.sl t xs) (.sl 1 []) = some false := by
  cases xs with
  | nil => exact absurd rfl h
  | cons a l => unfold nilQ; split <;> simp_all
@[simp high] theorem nilQ_slne' {t : Nat} {xs : List (List AV)} (h : xs ≠ []) : nilQ .sl (.sl 1 []) (.sl t xs) = some false := by
  cases xs with
  | nil => exact absurd rfl h
  | cons a l => unfold nilQ; split <;> simp_all
/-- Variables from the k-th on lie further behind: what clashes stays the same. -/
def Cls.sh (k n : Nat) : Cls → Cls
  | .ld i => .ld (if i < k then i else i + n)
  | .st i => .st (if i < k then i else i + n)
  | .new i => .new (if i < k then i else i + n)
  | .comp => .comp
  | .tok => .tok
theorem sh_beq {k n i j : Nat} : ((if i < k then i else i + n) == (if j < k then j else j + n)) = (i == j) := by
  rw [Bool.eq_iff_iff, beq_iff_eq, beq_iff_eq]
  split <;> split <;> omega
theorem clash_sh (k n : Nat) (a b : Cls) : clash (a.sh k n) (b.sh k n) = clash a b := by
  cases a <;> cases b <;> simp only [Cls.sh, clash, sh_beq]
theorem psafeC_sh {ops : Array Oper} (k n : Nat) (cl : List Cls) : psafeC ops (cl.map (Cls.sh k n)) = psafeC ops cl := by
  unfold psafeC
  congr 1
  congr 1
  funext j
  congr 1
  funext i
  congr 1
  unfold indepC
  simp only [List.getElem?_map]
  cases ops[i]? <;> cases ops[j]? <;> cases cl[i]? <;> cases cl[j]? <;> simp [clash_sh]
theorem psafe_sh (k : Nat) {ops : Array Oper} (L : Nat → List Cls) (n : Nat) (h : ∀ n, L n = (L 0).map (Cls.sh k n)) (h0 : psafeC ops (L 0) = true) : psafeC ops (L n) = true := by
  rw [h n, psafeC_sh]; exact h0
theorem psafe_all (k : Nat) {ops : Array Oper} {L : Nat → List Cls} (h : ∀ n, L n = (L 0).map (Cls.sh k n)) (h0 : psafeC ops (L 0) = true) : ∀ n, psafeC ops (L n) = true := fun n => psafe_sh k L n h h0
attribute [simp] S_kill S_fr kz kz1 frzD_puL frzD
end Go.Proofs.AL
namespace Go.Proofs.AL
open Go Go.RowKit
set_option linter.unusedVariables false
set_option linter.unusedSimpArgs false

/-! ## Regions that draw their order, with a call in the caller's memory amid them -/
def opsAt (ops : Array Oper) (is : List Nat) : List Oper := is.filterMap (ops[·]?)
def indepL (ops : Array Oper) (i j : Nat) (a b : Cls) : Bool := match ops[i]?, ops[j]? with
  | some o1, some o2 => o1.apart ops o2 && !clash a b
  | _, _ => false
def pairsL (ops : Array Oper) : List (Nat × Cls) → Bool
  | [] => true
  | x :: l => (l.all fun y => reach ops ops.size y.1 x.1 || indepL ops x.1 y.1 x.2 y.2) && pairsL ops l
def psafeL (ops : Array Oper) (is : List Nat) (cl : List Cls) : Bool := pairsL ops (is.zip cl)
inductive DerL (C : Cx) (ops : Array Oper) : List (Nat × Lab) → AS → AS → Prop
  | nil (s : AS) : DerL C ops [] s s
  | cons {i : Nat} {o : Oper} {l : Lab} {rest : List (Nat × Lab)} {s s1 s2 : AS} : ops[i]? = some o → Stp C ops o l s s1 → DerL C ops rest s1 s2 → DerL C ops ((i, l) :: rest) s s2
def IndepL (ops : Array Oper) (x y : Nat × Lab) : Prop := indepL ops x.1 y.1 (cls x.2) (cls y.2) = true
section
variable {C : Cx} {E : Env} {G : Gh} {s : AS} {a : Act} {w : World} {ops : Array Oper} {r : Option Nat} {Q : Exit → Act → World → Prop}
theorem DerL.pick {x : Nat × Lab} {post : List (Nat × Lab)} {s2 : AS} : ∀ (pre : List (Nat × Lab)) {s : AS}, DerL C ops (pre ++ x :: post) s s2 → (∀ p ∈ pre, IndepL ops p x) → DerL C ops (x :: (pre ++ post)) s s2
  | [], s, h, _ => h
  | p :: pre, s, h, hp => by
    cases h with
    | cons ho hs hr =>
      rename_i i o l s1
      have := DerL.pick pre hr (fun q hq => hp q (List.mem_cons_of_mem _ hq))
      cases this with
      | cons ho' hs' hr' =>
        have hi := hp _ (List.mem_cons_self)
        unfold IndepL indepL at hi
        rw [ho, ho'] at hi
        simp only [Bool.and_eq_true, Bool.not_eq_true'] at hi
        obtain ⟨u, g1, g2⟩ := hs.swap hs' hi.1 hi.2
        exact .cons ho' g1 (.cons ho g2 hr')
theorem DerL.snoc {x : Nat × Lab} {o : Oper} {s1 s2 : AS} (ho : ops[x.1]? = some o) (hs : Stp C ops o x.2 s1 s2) : ∀ {L : List (Nat × Lab)} {s : AS}, DerL C ops L s s1 → DerL C ops (L ++ [x]) s s2
  | [], s, h => by cases h; exact .cons ho hs (.nil _)
  | y :: L, s, h => by
    cases h with
    | cons ho' hs' hr' => exact .cons ho' hs' (DerL.snoc ho hs hr')
theorem wpOps_okL {K : Ph → List Cls → AS → Prop} : ∀ {is : List Nat} {s : AS} {cl : List Cls}, (∀ i ∈ is, i < ops.size) → wpOps (.drawn False) .on C ops (opsAt ops is) cl s K →
    ∃ labs s', labs.length = is.length ∧ DerL C ops (is.zip labs) s s' ∧ K .on (cl.reverse ++ labs.map cls) s'
  | [], s, cl, _, h => ⟨[], s, rfl, .nil s, by simpa [wpOps, opsAt] using h⟩
  | i :: is, s, cl, hb, h => by
    have hi := hb i (List.mem_cons_self)
    have ho : ops[i]? = some ops[i] := Array.getElem?_eq_getElem hi
    have e : opsAt ops (i :: is) = ops[i] :: opsAt ops is := by unfold opsAt; rw [List.filterMap_cons_some ho]
    rw [e] at h
    unfold wpOps wpStep at h
    obtain ⟨g, hg, hd, ht, hf⟩ := h
    have key : ∃ l s', Stp C ops ops[i] l s s' ∧ wpOps (.drawn False) .on C ops (opsAt ops is) (cls l :: cl) s' K := by
      cases g with
      | false => exact ⟨.skip, _, .skip hg hd, hf rfl⟩
      | true =>
        obtain ⟨l, s', h1, h2⟩ := (wpOp_ok hg hd (ht rfl)).resolve_right (fun h => h)
        exact ⟨l, s', h1, h2⟩
    obtain ⟨l, s1, h1, h2⟩ := key
    obtain ⟨labs, s', g1, g2, g3⟩ := wpOps_okL (fun j hj => hb j (List.mem_cons_of_mem _ hj)) h2
    refine ⟨l :: labs, s', by simp [g1], .cons ho h1 g2, by simpa using g3⟩
theorem pairs_of {L : List (Nat × Lab)} (h : pairsL ops (L.map fun x => (x.1, cls x.2)) = true) : L.Pairwise (fun x y => reach ops ops.size y.1 x.1 = true ∨ IndepL ops x y) := by
  induction L with
  | nil => exact .nil
  | cons x L ih =>
    simp only [List.map_cons, pairsL, Bool.and_eq_true, List.all_eq_true, Bool.or_eq_true] at h
    exact .cons (fun y hy => h.1 _ (List.mem_map_of_mem (f := fun x : Nat × Lab => (x.1, cls x.2)) hy)) (ih h.2)
theorem zip_cls (is : List Nat) (labs : List Lab) : (is.zip labs).map (fun x => (x.1, cls x.2)) = is.zip (labs.map cls) := by
  rw [List.zip_map_right]; rfl
theorem map_fst_zip {is : List Nat} {labs : List Lab} (h : labs.length = is.length) : (is.zip labs).map (·.1) = is := by
  rw [List.map_fst_zip]; omega
def cnt (ops : Array Oper) (listed : Array Bool) : Nat := ((List.range ops.size).filter fun i => !listed.getD i true).length
/-- Which operations are still to come. -/
structure Un (ops : Array Oper) (listed : Array Bool) (U : Nat → Prop) : Prop where
  sz : listed.size = ops.size
  cl : Listed ops listed
  un : ∀ q, q < ops.size → (listed.getD q true = false ↔ U q)
def WA (C : Cx) (r : Option Nat) (ops : Array Oper) (Q : Exit → Act → World → Prop) (listed : Array Bool) (a : Act) (w : World) : Prop := ∀ fuel, cnt ops listed ≤ fuel → wpAnyIn (Fr r) 0 C.P .any ops Q fuel listed a w
theorem edges_of (h : edgesBack ops = true) : ∀ (i : Nat) (o : Oper), ops[i]? = some o → ∀ e ∈ o.after, Region.binds .any e = true → e.on < i := by
  intro i o ho e he hb
  have hlt := (Array.getElem?_eq_some_iff.1 ho).1
  unfold edgesBack at h
  have := List.all_eq_true.1 h i (List.mem_range.2 hlt)
  rw [ho] at this
  have := List.all_eq_true.1 this e (by simpa using he)
  simp only [hb, Bool.not_true, Bool.false_or, decide_eq_true_eq] at this
  exact this
theorem getD_flip {listed : Array Bool} {q : Nat} (h : q < listed.size) : listed.getD q false = listed.getD q true := by
  rw [Array.getD_eq_getD_getElem?, Array.getD_eq_getD_getElem?, Array.getElem?_eq_getElem h]; rfl
theorem Un.ready {listed : Array Bool} {U : Nat → Prop} (h : Un ops listed U) {i : Nat} (hi : i ∈ Region.ready .any ops listed) : ∃ o, ops[i]? = some o ∧ U i ∧ (∀ y, y < ops.size → U y → reach ops ops.size i y = true → False) := by
  obtain ⟨h1, o, ho, hdeps⟩ := mem_ready.1 hi
  have hlt := (Array.getElem?_eq_some_iff.1 ho).1
  refine ⟨o, ho, (h.un i hlt).1 h1, fun y hy hu hr => ?_⟩
  have := reach_listed h.cl _ (fun o' ho' e he hb => by rw [ho] at ho'; cases ho'; exact hdeps e he hb) hr
  rw [getD_flip (by rw [h.sz]; exact hy), (h.un y hy).2 hu] at this
  cases this
theorem Un.step {listed : Array Bool} {U : Nat → Prop} (h : Un ops listed U) {i : Nat} (hi : i ∈ Region.ready .any ops listed) : Un ops (listed.setIfInBounds i true) (fun q => U q ∧ q ≠ i) ∧ cnt ops (listed.setIfInBounds i true) < cnt ops listed := by
  obtain ⟨h1, o, ho, hdeps⟩ := mem_ready.1 hi
  have hlt := (Array.getElem?_eq_some_iff.1 ho).1
  have hin : i < listed.size := by rw [h.sz]; exact hlt
  refine ⟨⟨by simpa using h.sz, ?_, ?_⟩, ?_⟩
  · intro q oq hoq hq e he hb
    by_cases hqi : q = i
    · subst hqi
      rw [ho] at hoq; cases hoq
      exact getD_set_true (hdeps e he hb)
    · rw [getD_set_ne false (fun e => hqi e.symm)] at hq
      exact getD_set_true (h.cl q oq hoq hq e he hb)
  · intro q hq
    by_cases hqi : q = i
    · subst hqi
      simp [hin]
    · rw [getD_set_ne true (fun e => hqi e.symm), h.un q hq]
      exact ⟨fun hu => ⟨hu, hqi⟩, fun hu => hu.1⟩
  · unfold cnt
    have hmem : i ∈ (List.range ops.size).filter fun i => !listed.getD i true := List.mem_filter.2 ⟨List.mem_range.2 hlt, by rw [h1]; rfl⟩
    have hnodup : ((List.range ops.size).filter fun i => !listed.getD i true).Nodup := List.Pairwise.filter _ List.nodup_range
    obtain ⟨pre, post, hL⟩ := List.append_of_mem hmem
    have hL' : ((List.range ops.size).filter fun j => !(listed.setIfInBounds i true).getD j true) = pre ++ post := by
      rw [← filter_ne_of_nodup (by rw [← hL]; exact hnodup), ← hL, List.filter_filter]
      apply List.filter_congr
      intro j _
      by_cases hj : j = i
      · subst hj
        have : (listed.setIfInBounds j true).getD j true = true := by simp [hin]
        rw [this]; simp
      · rw [getD_set_ne true (fun e => hj e.symm)]; simp [hj]
    rw [hL', hL]
    simp
theorem Un.some_ready {listed : Array Bool} {U : Nat → Prop} (h : Un ops listed U) (hb : edgesBack ops = true) {q : Nat} (hq : q < ops.size) (hu : U q) : Region.ready .any ops listed ≠ [] := by
  intro hempty
  have key : ∀ (m q : Nat), q ≤ m → q < ops.size → U q → False := by
    intro m
    induction m with
    | zero =>
      intro q hm hq hu
      have hready : q ∈ Region.ready .any ops listed := by
        rw [mem_ready]
        refine ⟨(h.un q hq).2 hu, ops[q], Array.getElem?_eq_getElem hq, fun e he hbb => ?_⟩
        have := edges_of hb q _ (Array.getElem?_eq_getElem hq) e he hbb
        omega
      rw [hempty] at hready; cases hready
    | succ m ih =>
      intro q hm hq hu
      have hready : q ∈ Region.ready .any ops listed := by
        rw [mem_ready]
        refine ⟨(h.un q hq).2 hu, ops[q], Array.getElem?_eq_getElem hq, fun e he hbb => ?_⟩
        have hlt := edges_of hb q _ (Array.getElem?_eq_getElem hq) e he hbb
        cases hg : listed.getD e.on false with
        | true => rfl
        | false =>
          exfalso
          refine ih e.on (by omega) (by omega) ((h.un e.on (by omega)).1 ?_)
          rw [← getD_flip (by rw [h.sz]; omega)]; exact hg
      rw [hempty] at hready; cases hready
  exact key q q (Nat.le_refl _) hq hu
theorem WA.step {listed : Array Bool} {U : Nat → Prop} (h : Un ops listed U) (hb : edgesBack ops = true) {q : Nat} (hq : q < ops.size) (hu : U q)
    (hs : ∀ i o, i ∈ Region.ready .any ops listed → ops[i]? = some o → U i → (∀ y, y < ops.size → U y → reach ops ops.size i y = true → False) → ∀ next, (∀ a' w', WA C r ops Q (listed.setIfInBounds i true) a' w' → next a' w') → wpOpIn (Fr r) 0 C.P ops Q i next a w) : WA C r ops Q listed a w := by
  intro fuel hf
  have hne := h.some_ready hb hq hu
  cases fuel with
  | zero =>
    exfalso
    have hmem : q ∈ (List.range ops.size).filter fun i => !listed.getD i true := List.mem_filter.2 ⟨List.mem_range.2 hq, by rw [(h.un q hq).2 hu]; rfl⟩
    have := List.length_pos_of_mem hmem
    unfold cnt at hf
    omega
  | succ fuel =>
    refine ⟨fun he => absurd he hne, fun i hi => ?_⟩
    obtain ⟨o, ho, hu', hno⟩ := h.ready hi
    refine hs i o hi ho hu' hno _ (fun a' w' hw => hw fuel ?_)
    have := (h.step hi).2
    omega
theorem WA.done {listed : Array Bool} {U : Nat → Prop} (h : Un ops listed U) (hu : ∀ q, q < ops.size → ¬ U q) (hq : Q .normal a w) : WA C r ops Q listed a w := by
  have hempty : Region.ready .any ops listed = [] := by
    rw [List.eq_nil_iff_forall_not_mem]
    intro i hi
    obtain ⟨o, ho, hu', _⟩ := h.ready hi
    exact hu i (Array.getElem?_eq_some_iff.1 ho).1 hu'
  intro fuel _
  cases fuel with
  | zero => exact ⟨hempty, hq⟩
  | succ fuel => exact ⟨fun _ => hq, fun i hi => by rw [hempty] at hi; cases hi⟩
/-- Operations whose order plays no part, ahead of all else. -/
theorem segA (hb : edgesBack ops = true) (R : Nat → Prop) {s1 : AS} (cont : ∀ (listed' : Array Bool) (G' : Gh) (a' : Act) (w' : World), Un ops listed' R → Rel C E G' s1 a' w' → WA C r ops Q listed' a' w') :
    ∀ (m : Nat) (L : List (Nat × Lab)), L.length = m → ∀ {listed : Array Bool} {s : AS} {G : Gh} {a : Act} {w : World}, Un ops listed (fun q => q ∈ L.map (·.1) ∨ R q) → L.Pairwise (fun x y => reach ops ops.size y.1 x.1 = true ∨ IndepL ops x y) → (L.map (·.1)).Nodup →
      (∀ x ∈ L, x.1 < ops.size) → (∀ q, R q → q ∉ L.map (·.1)) → (∀ q, R q → q < ops.size) → (∀ q, R q → (∀ x ∈ L, reach ops ops.size q x.1 = true) ∨ ∃ y, R y ∧ reach ops ops.size q y = true) → DerL C ops L s s1 → Rel C E G s a w → WA C r ops Q listed a w := by
  intro m
  induction m with
  | zero =>
    intro L hm listed s G a w hU _ _ _ _ _ _ hd hr
    have := List.eq_nil_of_length_eq_zero hm
    subst this
    cases hd
    exact cont listed G a w ⟨hU.sz, hU.cl, fun q hq => by simpa using hU.un q hq⟩ hr
  | succ m ih =>
    intro L hm listed s G a w hU hp hnd hlt hRL hRn hR hd hr
    have hne : L ≠ [] := by rintro rfl; cases hm
    obtain ⟨x0, hx0⟩ := List.exists_mem_of_ne_nil L hne
    refine WA.step hU hb (hlt x0 hx0) (.inl (List.mem_map_of_mem hx0)) (fun i o hi ho hu hno next hnext => ?_)
    rcases hu with hu | hu
    · obtain ⟨⟨j, lb⟩, hx, hji⟩ := List.mem_map.1 hu
      have hji : j = i := hji
      subst hji
      obtain ⟨pre, post, rfl⟩ := List.append_of_mem hx
      have hp' := List.pairwise_append.1 hp
      have hind : ∀ p ∈ pre, IndepL ops p (j, lb) := fun p hpp => by
        rcases hp'.2.2 p hpp (j, lb) (List.mem_cons_self) with h1 | h1
        · exact (hno p.1 (hlt p (List.mem_append_left _ hpp)) (.inl (List.mem_map_of_mem (List.mem_append_left _ hpp))) h1).elim
        · exact h1
      have hpick := hd.pick pre hind
      cases hpick with
      | cons ho' hs' hr' =>
        rw [ho] at ho'; cases ho'
        refine hs'.ok hr ho (fun G' a' w' hrel => hnext _ _ ?_)
        have hsub : ∀ y, y ∈ pre ++ post → y ∈ pre ++ (j, lb) :: post := fun y hy => by
          rcases List.mem_append.1 hy with h1 | h1
          · exact List.mem_append_left _ h1
          · exact List.mem_append_right _ (List.mem_cons_of_mem _ h1)
        have hnd' : j ∉ (pre ++ post).map (·.1) ∧ ((pre ++ post).map (·.1)).Nodup := by
          rw [List.map_append, List.map_cons] at hnd
          have h1 := List.nodup_append.1 hnd
          have h2 := List.nodup_cons.1 h1.2.1
          rw [List.map_append]
          refine ⟨fun hm => ?_, List.nodup_append.2 ⟨h1.1, h2.2, fun y hy z hz => h1.2.2 y hy z (List.mem_cons_of_mem _ hz)⟩⟩
          rcases List.mem_append.1 hm with hm | hm
          · exact h1.2.2 _ hm _ (List.mem_cons_self) rfl
          · exact h2.1 hm
        refine ih (pre ++ post) (by simp at hm ⊢; omega) ?_ ?_ hnd'.2 (fun y hy => hlt y (hsub y hy)) (fun q hq hm => hRL q hq ?_) hRn (fun q hq => ?_) hr' hrel
        · have hst := (hU.step hi).1
          refine ⟨hst.sz, hst.cl, fun q hq => (hst.un q hq).trans ⟨fun h => ?_, fun h => ?_⟩⟩
          · rcases h.1 with h1 | h1
            · refine .inl ?_
              rw [List.map_append, List.map_cons] at h1
              rw [List.map_append]
              rcases List.mem_append.1 h1 with h1 | h1
              · exact List.mem_append_left _ h1
              · rcases List.mem_cons.1 h1 with h1 | h1
                · exact absurd h1 h.2
                · exact List.mem_append_right _ h1
            · exact .inr h1
          · rcases h with h1 | h1
            · refine ⟨.inl ?_, fun e => hnd'.1 (e ▸ h1)⟩
              obtain ⟨y, hy, rfl⟩ := List.mem_map.1 h1
              exact List.mem_map_of_mem (hsub y hy)
            · exact ⟨.inr h1, fun e => by subst e; exact hRL _ h1 (List.mem_map_of_mem (f := fun x : Nat × Lab => x.1) hx)⟩
        · rw [List.pairwise_append] at hp ⊢
          have h2 := List.pairwise_cons.1 hp.2.1
          exact ⟨hp.1, h2.2, fun y hy z hz => hp.2.2 y hy z (List.mem_cons_of_mem _ hz)⟩
        · obtain ⟨y, hy, rfl⟩ := List.mem_map.1 hm
          exact List.mem_map_of_mem (hsub y hy)
        · rcases hR q hq with h1 | h1
          · exact .inl (fun y hy => h1 y (hsub y hy))
          · exact .inr h1
    · exfalso
      rcases hR i hu with h1 | ⟨y, hy, h1⟩
      · exact hno x0.1 (hlt x0 hx0) (.inl (List.mem_map_of_mem hx0)) (h1 x0 hx0)
      · exact hno y (hRn y hy) (.inr hy) h1
/-- .. where one more may come up at any time. -/
theorem segZ (hb : edgesBack ops = true) (R : Nat → Prop) {z : Nat} {oz : Oper} {lz : Lab} (hoz : ops[z]? = some oz) {s1 sA : AS} (hsz : Stp C ops oz lz s1 sA) (hzR : ¬ R z)
    (contB : ∀ (listed' : Array Bool) (G' : Gh) (a' : Act) (w' : World), Un ops listed' (fun q => R q ∨ q = z) → Rel C E G' s1 a' w' → WA C r ops Q listed' a' w')
    (contA : ∀ (listed' : Array Bool) (G' : Gh) (a' : Act) (w' : World), Un ops listed' R → Rel C E G' sA a' w' → WA C r ops Q listed' a' w') :
    ∀ (m : Nat) (L : List (Nat × Lab)), L.length = m → ∀ {listed : Array Bool} {s : AS} {G : Gh} {a : Act} {w : World}, Un ops listed (fun q => q ∈ L.map (·.1) ∨ R q ∨ q = z) → L.Pairwise (fun x y => reach ops ops.size y.1 x.1 = true ∨ IndepL ops x y) → (L.map (·.1)).Nodup →
      (∀ x ∈ L, x.1 < ops.size) → (∀ x ∈ L, IndepL ops x (z, lz)) → z ∉ L.map (·.1) → (∀ q, R q → q ∉ L.map (·.1)) → (∀ q, R q → q < ops.size) → (∀ q, R q → (∀ x ∈ L, reach ops ops.size q x.1 = true) ∨ ∃ y, R y ∧ reach ops ops.size q y = true) → DerL C ops L s s1 → Rel C E G s a w → WA C r ops Q listed a w := by
  have hzn : z < ops.size := (Array.getElem?_eq_some_iff.1 hoz).1
  intro m
  induction m with
  | zero =>
    intro L hm listed s G a w hU _ _ _ _ _ _ _ _ hd hr
    have := List.eq_nil_of_length_eq_zero hm
    subst this
    cases hd
    exact contB listed G a w ⟨hU.sz, hU.cl, fun q hq => by simpa using hU.un q hq⟩ hr
  | succ m ih =>
    intro L hm listed s G a w hU hp hnd hlt hiz hzL hRL hRn hR hd hr
    have hne : L ≠ [] := by rintro rfl; cases hm
    obtain ⟨x0, hx0⟩ := List.exists_mem_of_ne_nil L hne
    refine WA.step hU hb (hlt x0 hx0) (.inl (List.mem_map_of_mem hx0)) (fun i o hi ho hu hno next hnext => ?_)
    rcases hu with hu | hu | hu
    · obtain ⟨⟨j, lb⟩, hx, hji⟩ := List.mem_map.1 hu
      have hji : j = i := hji
      subst hji
      obtain ⟨pre, post, rfl⟩ := List.append_of_mem hx
      have hp' := List.pairwise_append.1 hp
      have hind : ∀ p ∈ pre, IndepL ops p (j, lb) := fun p hpp => by
        rcases hp'.2.2 p hpp (j, lb) (List.mem_cons_self) with h1 | h1
        · exact (hno p.1 (hlt p (List.mem_append_left _ hpp)) (.inl (List.mem_map_of_mem (List.mem_append_left _ hpp))) h1).elim
        · exact h1
      have hpick := hd.pick pre hind
      cases hpick with
      | cons ho' hs' hr' =>
        rw [ho] at ho'; cases ho'
        refine hs'.ok hr ho (fun G' a' w' hrel => hnext _ _ ?_)
        have hsub : ∀ y, y ∈ pre ++ post → y ∈ pre ++ (j, lb) :: post := fun y hy => by
          rcases List.mem_append.1 hy with h1 | h1
          · exact List.mem_append_left _ h1
          · exact List.mem_append_right _ (List.mem_cons_of_mem _ h1)
        have hnd' : j ∉ (pre ++ post).map (·.1) ∧ ((pre ++ post).map (·.1)).Nodup := by
          rw [List.map_append, List.map_cons] at hnd
          have h1 := List.nodup_append.1 hnd
          have h2 := List.nodup_cons.1 h1.2.1
          rw [List.map_append]
          refine ⟨fun hm => ?_, List.nodup_append.2 ⟨h1.1, h2.2, fun y hy z hz => h1.2.2 y hy z (List.mem_cons_of_mem _ hz)⟩⟩
          rcases List.mem_append.1 hm with hm | hm
          · exact h1.2.2 _ hm _ (List.mem_cons_self) rfl
          · exact h2.1 hm
        refine ih (pre ++ post) (by simp at hm ⊢; omega) ?_ ?_ hnd'.2 (fun y hy => hlt y (hsub y hy)) (fun y hy => hiz y (hsub y hy)) (fun hm => hzL ?_) (fun q hq hm => hRL q hq ?_) hRn (fun q hq => ?_) hr' hrel
        · have hst := (hU.step hi).1
          refine ⟨hst.sz, hst.cl, fun q hq => (hst.un q hq).trans ⟨fun h => ?_, fun h => ?_⟩⟩
          · rcases h.1 with h1 | h1
            · refine .inl ?_
              rw [List.map_append, List.map_cons] at h1
              rw [List.map_append]
              rcases List.mem_append.1 h1 with h1 | h1
              · exact List.mem_append_left _ h1
              · rcases List.mem_cons.1 h1 with h1 | h1
                · exact absurd h1 h.2
                · exact List.mem_append_right _ h1
            · exact .inr h1
          · rcases h with h1 | h1
            · refine ⟨.inl ?_, fun e => hnd'.1 (e ▸ h1)⟩
              obtain ⟨y, hy, rfl⟩ := List.mem_map.1 h1
              exact List.mem_map_of_mem (hsub y hy)
            · refine ⟨.inr h1, fun e => ?_⟩
              subst e
              rcases h1 with h1 | h1
              · exact hRL _ h1 (List.mem_map_of_mem (f := fun x : Nat × Lab => x.1) hx)
              · exact hzL (h1 ▸ List.mem_map_of_mem (f := fun x : Nat × Lab => x.1) hx)
        · rw [List.pairwise_append] at hp ⊢
          have h2 := List.pairwise_cons.1 hp.2.1
          exact ⟨hp.1, h2.2, fun y hy z hz => hp.2.2 y hy z (List.mem_cons_of_mem _ hz)⟩
        · obtain ⟨y, hy, e⟩ := List.mem_map.1 hm
          rw [← e]
          exact List.mem_map_of_mem (hsub y hy)
        · obtain ⟨y, hy, rfl⟩ := List.mem_map.1 hm
          exact List.mem_map_of_mem (hsub y hy)
        · rcases hR q hq with h1 | h1
          · exact .inl (fun y hy => h1 y (hsub y hy))
          · exact .inr h1
    · exfalso
      rcases hR i hu with h1 | ⟨y, hy, h1⟩
      · exact hno x0.1 (hlt x0 hx0) (.inl (List.mem_map_of_mem hx0)) (h1 x0 hx0)
      · exact hno y (hRn y hy) (.inr (.inl hy)) h1
    · subst hu
      rw [hoz] at ho; cases ho
      have hall := (hd.snoc (x := (i, lz)) hoz hsz).pick L hiz
      rw [List.append_nil] at hall
      cases hall with
      | cons ho' hs' hr' =>
        rw [hoz] at ho'; cases ho'
        refine hs'.ok hr hoz (fun G' a' w' hrel => hnext _ _ ?_)
        refine segA hb R contA L.length L rfl ?_ hp hnd hlt hRL hRn hR hr' hrel
        have hst := (hU.step hi).1
        refine ⟨hst.sz, hst.cl, fun q hq => (hst.un q hq).trans ⟨fun h => ?_, fun h => ?_⟩⟩
        · rcases h.1 with h1 | h1 | h1
          · exact .inl h1
          · exact .inr h1
          · exact absurd h1 h.2
        · rcases h with h1 | h1
          · exact ⟨.inl h1, fun e => hzL (e ▸ h1)⟩
          · exact ⟨.inr (.inl h1), fun e => hzR (e ▸ h1)⟩
/-- What is checked of an order: is1, then the call k, then is2. -/
def schedOk (ops : Array Oper) (is1 : List Nat) (k : Nat) (is2 : List Nat) (zs : List Nat) : Bool :=
  edgesBack ops && decide (k < ops.size) && is1.all (fun p => decide (p < ops.size) && reach ops ops.size k p) && is2.all (fun q => decide (q < ops.size) && reach ops ops.size q k) && zs.all (fun q => decide (q < ops.size)) &&
    decide ((is1 ++ k :: is2 ++ zs).Nodup) && (List.range ops.size).all fun q => (is1 ++ k :: is2 ++ zs).contains q
structure Sched (ops : Array Oper) (is1 : List Nat) (k : Nat) (is2 : List Nat) (zs : List Nat) : Prop where
  back : edgesBack ops = true
  kn : k < ops.size
  n1 : ∀ p ∈ is1, p < ops.size ∧ reach ops ops.size k p = true
  n2 : ∀ q ∈ is2, q < ops.size ∧ reach ops ops.size q k = true
  nz : ∀ q ∈ zs, q < ops.size
  nd : (is1 ++ k :: is2 ++ zs).Nodup
  all : ∀ q, q < ops.size → q ∈ is1 ++ k :: is2 ++ zs
theorem Sched.of {is1 is2 zs : List Nat} {k : Nat} (h : schedOk ops is1 k is2 zs = true) : Sched ops is1 k is2 zs := by
  unfold schedOk at h
  simp only [Bool.and_eq_true, decide_eq_true_eq, List.all_eq_true, List.mem_range, List.contains_eq_mem] at h
  exact ⟨h.1.1.1.1.1.1, h.1.1.1.1.1.2, h.1.1.1.1.2, h.1.1.1.2, h.1.1.2, h.1.2, h.2⟩
/-- The call, and what comes behind it. -/
theorem segJ (hb : edgesBack ops = true) {k : Nat} {is2 : List Nat} {ok : Oper} (hok : ops[k]? = some ok) (h2 : ∀ q ∈ is2, q < ops.size ∧ reach ops ops.size q k = true) (hnd : (k :: is2).Nodup) {K : Ph → AS → Prop} (hK : ∀ s3 G' a' w', K .on s3 → Rel C E G' s3 a' w' → Q .normal a' w')
    (hrun : wpStep .seq .on C ops s ok (fun p _ s2 => wpOps (.drawn False) p C ops (opsAt ops is2) [] s2 (fun p cl s3 => psafeL ops is2 cl = true ∧ K p s3))) {listed : Array Bool} (hU : Un ops listed (fun q => q = k ∨ q ∈ is2)) (hr : Rel C E G s a w) : WA C r ops Q listed a w := by
  have hkn : k < ops.size := (Array.getElem?_eq_some_iff.1 hok).1
  have hnd' := List.nodup_cons.1 hnd
  refine WA.step hU hb hkn (.inl rfl) (fun i o hi ho hu hno next hnext => ?_)
  have hik : i = k := by
    rcases hu with hu | hu
    · exact hu
    · exact (hno k hkn (.inl rfl) (h2 i hu).2).elim
  subst hik
  rw [hok] at ho; cases ho
  refine wpOpJ_ok hr hok hrun (fun c s2 G' a' w' hk hr' => hnext _ _ ?_)
  obtain ⟨labs, s3, g1, g2, g3, g4⟩ := wpOps_okL (fun j hj => (h2 j hj).1) hk
  have hm := map_fst_zip g1
  refine segA hb (fun _ => False) (fun listed' G'' a'' w'' hU' hr'' => WA.done hU' (fun _ _ h => h) (hK s3 G'' a'' w'' g4 hr'')) _ (is2.zip labs) rfl ?_ (pairs_of (by rw [zip_cls]; simpa [psafeL] using g3)) (by rw [hm]; exact hnd'.2) (fun x hx => (h2 x.1 (by rw [← hm]; exact List.mem_map_of_mem hx)).1) (fun _ h => h.elim) (fun _ h => h.elim) (fun _ h => h.elim) g2 hr'
  have hst := (hU.step hi).1
  refine ⟨hst.sz, hst.cl, fun q hq => (hst.un q hq).trans ?_⟩
  rw [hm]
  exact ⟨fun h => .inl (h.1.resolve_left h.2), fun h => ⟨.inr (h.resolve_right id), fun e => hnd'.1 (e ▸ h.resolve_right id)⟩⟩
theorem un0 {zs : List Nat} : Un ops (Array.replicate ops.size false) (fun _ => True) := by
  refine ⟨by simp, fun q o ho hq => ?_, fun q hq => by simp [Array.getD_eq_getD_getElem?, hq]⟩
  exfalso
  rw [Array.getD_eq_getD_getElem?] at hq
  rcases Nat.lt_or_ge q ops.size with h1 | h1
  · simp [h1] at hq
  · simp [Array.getElem?_eq_none (by simpa using h1 : (Array.replicate ops.size false).size ≤ q)] at hq
theorem cnt0 : cnt ops (Array.replicate ops.size false) ≤ ops.size := by
  unfold cnt
  exact Nat.le_trans (List.length_filter_le _ _) (by simp)
theorem ACode.ofWA {id : Nat} {K : Exit → AS → Prop} (h : ∀ E G a w, Rel C E G s a w → WA C r ops (fun e a' w' => ∃ s' G', K e s' ∧ Rel C E G' s' a' w') (Array.replicate ops.size false) a w) : ACode C r (.region id ops true) s K := fun E G a w hr => by
  refine wpIn_region_any C.mixed ?_
  have hb : Below w.heap.size w { w with drawn := w.drawn + 1 } := (Below.refl _ w).drew
  have hr' := hr.grow (m' := G.m) hb (fun _ _ => rfl) hr.mz
  exact h E _ a _ hr' ops.size cnt0
/-- One call, all else ahead of it or behind it. -/
theorem wpC_regD {id : Nat} {K : Ph → Exit → AS → Prop} (is1 : List Nat) (k : Nat) (is2 : List Nat) {ok : Oper} (hs : schedOk ops is1 k is2 [] = true) (hok : ops[k]? = some ok)
    (h : wpOps (.drawn False) .on C ops (opsAt ops is1) [] s (fun p cl1 s1 => psafeL ops is1 cl1 = true ∧ wpStep .seq p C ops s1 ok (fun p _ s2 => wpOps (.drawn False) p C ops (opsAt ops is2) [] s2 (fun p cl s3 => psafeL ops is2 cl = true ∧ K p .normal s3)))) : escC C r id ops s K := by
  have hS := Sched.of hs
  show ACode C r (.region id ops true) s (K .on)
  refine ACode.ofWA (fun E G a w hr => ?_)
  obtain ⟨labs, s1, g1, g2, g3, g4⟩ := wpOps_okL (fun j hj => (hS.n1 j hj).1) h
  have hm := map_fst_zip g1
  have hnd := hS.nd
  rw [List.append_nil] at hnd
  have hnd1 := List.nodup_append.1 hnd
  refine segA hS.back (fun q => q = k ∨ q ∈ is2) (fun listed' G' a' w' hU' hr' => segJ hS.back hok hS.n2 hnd1.2.1 (K := fun p s3 => K p .normal s3) (fun s3 G'' a'' w'' hk hr'' => ⟨s3, G'', hk, hr''⟩) g4 hU' hr') _ (is1.zip labs) rfl ?_ (pairs_of (by rw [zip_cls]; simpa [psafeL] using g3)) (by rw [hm]; exact hnd1.1) (fun x hx => (hS.n1 x.1 (by rw [← hm]; exact List.mem_map_of_mem hx)).1) (fun q hq hq' => ?_) (fun q hq => ?_) (fun q hq => ?_) g2 hr
  · have h0 := un0 (ops := ops) (zs := [])
    refine ⟨h0.sz, h0.cl, fun q hq => (h0.un q hq).trans ⟨fun _ => ?_, fun _ => trivial⟩⟩
    rw [hm]
    have := hS.all q hq
    rw [List.append_nil] at this
    rcases List.mem_append.1 this with h1 | h1
    · exact .inl h1
    · exact .inr (List.mem_cons.1 h1)
  · rw [hm] at hq'
    exact hnd1.2.2 q hq' q (List.mem_cons.2 hq) rfl
  · rcases hq with rfl | hq
    · exact hS.kn
    · exact (hS.n2 q hq).1
  · rcases hq with rfl | hq
    · exact .inl (fun x hx => (hS.n1 x.1 (by rw [← hm]; exact List.mem_map_of_mem hx)).2)
    · exact .inr ⟨k, .inl rfl, (hS.n2 q hq).2⟩
theorem wpStep_stp {o : Oper} {K : Ph → Cls → AS → Prop} (h : wpStep (.drawn False) .on C ops s o K) : ∃ l s', Stp C ops o l s s' ∧ K .on (cls l) s' := by
  obtain ⟨g, hg, hd, ht, hf⟩ := h
  cases g with
  | false => exact ⟨.skip, _, .skip hg hd, hf rfl⟩
  | true =>
    obtain ⟨l, s', h1, h2⟩ := (wpOp_ok hg hd (ht rfl)).resolve_right (fun h => h)
    exact ⟨l, s', h1, h2⟩
/-- One call; z may come ahead of it or behind it; is2: what is behind it, with z at its place; is3: without. -/
theorem wpC_regZ {id : Nat} {K : Ph → Exit → AS → Prop} (is1 : List Nat) (k : Nat) (is2 is3 : List Nat) (z : Nat) {ok oz : Oper} (hs : schedOk ops is1 k is3 [z] = true) (hs2 : (decide (is2.Nodup) && is2.all (fun q => is3.contains q || q == z) && is3.all (fun q => is2.contains q) && is2.contains z) = true) (hok : ops[k]? = some ok) (hoz : ops[z]? = some oz)
    (h : wpOps (.drawn False) .on C ops (opsAt ops is1) [] s (fun p cl1 s1 => psafeL ops is1 cl1 = true ∧
      wpStep .seq p C ops s1 ok (fun p _ s2 => wpOps (.drawn False) p C ops (opsAt ops is2) [] s2 (fun p cl s3 => psafeL ops is2 cl = true ∧ K p .normal s3)) ∧
      wpStep (.drawn False) p C ops s1 oz (fun p cz sA => ((is1.zip cl1).all fun x => indepL ops x.1 z x.2 cz) = true ∧ wpStep .seq p C ops sA ok (fun p _ s2 => wpOps (.drawn False) p C ops (opsAt ops is3) [] s2 (fun p cl s3 => psafeL ops is3 cl = true ∧ K p .normal s3))))) : escC C r id ops s K := by
  have hS := Sched.of hs
  simp only [Bool.and_eq_true, decide_eq_true_eq, List.all_eq_true, Bool.or_eq_true, beq_iff_eq, List.contains_eq_mem] at hs2
  obtain ⟨⟨⟨hd2, h23⟩, h32⟩, hz2⟩ := hs2
  show ACode C r (.region id ops true) s (K .on)
  refine ACode.ofWA (fun E G a w hr => ?_)
  obtain ⟨labs, s1, g1, g2, g3, gB, gZ⟩ := wpOps_okL (fun j hj => (hS.n1 j hj).1) h
  obtain ⟨lz, sA, hstz, hind, gA⟩ := wpStep_stp gZ
  have hm := map_fst_zip g1
  have hnd1 := List.nodup_append.1 hS.nd
  have hnd2 := List.nodup_append.1 hnd1.1
  have hzk : z ≠ k := fun e => hnd1.2.2 z (by rw [e]; simp) z (by simp) rfl
  have hz3 : z ∉ is3 := fun e => hnd1.2.2 z (by simp [e]) z (by simp) rfl
  have hz1 : z ∉ is1 := fun e => hnd1.2.2 z (by simp [e]) z (by simp) rfl
  have hzn : z < ops.size := (Array.getElem?_eq_some_iff.1 hoz).1
  have contA : ∀ (listed' : Array Bool) (G' : Gh) (a' : Act) (w' : World), Un ops listed' (fun q => q = k ∨ q ∈ is3) → Rel C E G' sA a' w' → WA C r ops (fun e a' w' => ∃ s' G', K .on e s' ∧ Rel C E G' s' a' w') listed' a' w' := fun listed' G' a' w' hU' hr' =>
    segJ hS.back hok hS.n2 hnd2.2.1 (K := fun p s3 => K p .normal s3) (fun s3 G'' a'' w'' hk hr'' => ⟨s3, G'', hk, hr''⟩) gA hU' hr'
  have contB : ∀ (listed' : Array Bool) (G' : Gh) (a' : Act) (w' : World), Un ops listed' (fun q => (q = k ∨ q ∈ is3) ∨ q = z) → Rel C E G' s1 a' w' → WA C r ops (fun e a' w' => ∃ s' G', K .on e s' ∧ Rel C E G' s' a' w') listed' a' w' := by
    intro listed G a w hU hr
    refine WA.step hU hS.back hS.kn (.inl (.inl rfl)) (fun i o hi ho hu hno next hnext => ?_)
    rcases hu with (hu | hu) | hu
    · subst hu
      rw [hok] at ho; cases ho
      refine wpOpJ_ok hr hok gB (fun c s2 G' a' w' hk hr' => hnext _ _ ?_)
      obtain ⟨labs2, s3, f1, f2, f3, f4⟩ := wpOps_okL (fun j hj => by
        rcases h23 j hj with h1 | h1
        · exact (hS.n2 j h1).1
        · rw [h1]; exact hzn) hk
      have hm2 := map_fst_zip f1
      refine segA hS.back (fun _ => False) (fun listed' G'' a'' w'' hU' hr'' => WA.done hU' (fun _ _ h => h) ⟨s3, G'', f4, hr''⟩) _ (is2.zip labs2) rfl ?_ (pairs_of (by rw [zip_cls]; simpa [psafeL] using f3)) (by rw [hm2]; exact hd2) (fun x hx => ?_) (fun _ h => h.elim) (fun _ h => h.elim) (fun _ h => h.elim) f2 hr'
      · have hst := (hU.step hi).1
        refine ⟨hst.sz, hst.cl, fun q hq => (hst.un q hq).trans ?_⟩
        rw [hm2]
        constructor
        · rintro ⟨h1, h2⟩
          rcases h1 with (h1 | h1) | h1
          · exact absurd h1 h2
          · exact .inl (h32 q h1)
          · exact .inl (by rw [h1]; exact hz2)
        · intro h1
          have h1 := h1.resolve_right (fun h => h)
          rcases h23 q h1 with h2 | h2
          · exact ⟨.inl (.inr h2), fun e => (List.nodup_cons.1 hnd2.2.1).1 (e ▸ h2)⟩
          · exact ⟨.inr h2, fun e => hzk (h2.symm.trans e)⟩
      · have : x.1 ∈ is2 := by rw [← hm2]; exact List.mem_map_of_mem hx
        rcases h23 x.1 this with h1 | h1
        · exact (hS.n2 x.1 h1).1
        · rw [h1]; exact hzn
    · exact (hno k hS.kn (.inl (.inl rfl)) (hS.n2 i hu).2).elim
    · subst hu
      rw [hoz] at ho; cases ho
      refine hstz.ok hr hoz (fun G' a' w' hrel => hnext _ _ (contA _ G' a' w' ?_ hrel))
      have hst := (hU.step hi).1
      refine ⟨hst.sz, hst.cl, fun q hq => (hst.un q hq).trans ⟨fun h => h.1.resolve_right h.2, fun h5 => ⟨.inl h5, fun e => ?_⟩⟩⟩
      subst e
      rcases h5 with h5 | h5
      · exact hzk h5
      · exact hz3 h5
  refine segZ hS.back (fun q => q = k ∨ q ∈ is3) hoz hstz (fun h => h.elim hzk hz3) contB contA _ (is1.zip labs) rfl ?_ (pairs_of (by rw [zip_cls]; simpa [psafeL] using g3)) (by rw [hm]; exact hnd2.1) (fun x hx => (hS.n1 x.1 (by rw [← hm]; exact List.mem_map_of_mem hx)).1) (fun x hx => ?_) (by rw [hm]; exact hz1) (fun q hq hq' => ?_) (fun q hq => ?_) (fun q hq => ?_) g2 hr
  · have h0 := un0 (ops := ops) (zs := [])
    refine ⟨h0.sz, h0.cl, fun q hq => (h0.un q hq).trans ⟨fun _ => ?_, fun _ => trivial⟩⟩
    rw [hm]
    rcases List.mem_append.1 (hS.all q hq) with h1 | h1
    · rcases List.mem_append.1 h1 with h1 | h1
      · exact .inl h1
      · exact .inr (.inl (List.mem_cons.1 h1))
    · exact .inr (.inr (List.mem_singleton.1 h1))
  · have h1 : (x.1, cls x.2) ∈ is1.zip (([] : List Cls).reverse ++ labs.map cls) := by
      rw [List.reverse_nil, List.nil_append, ← zip_cls]
      exact List.mem_map_of_mem (f := fun x : Nat × Lab => (x.1, cls x.2)) hx
    exact List.all_eq_true.1 hind _ h1
  · rw [hm] at hq'
    exact hnd2.2.2 q hq' q (List.mem_cons.2 hq) rfl
  · rcases hq with rfl | hq
    · exact hS.kn
    · exact (hS.n2 q hq).1
  · rcases hq with rfl | hq
    · exact .inl (fun x hx => (hS.n1 x.1 (by rw [← hm]; exact List.mem_map_of_mem hx)).2)
    · exact .inr ⟨k, .inl rfl, (hS.n2 q hq).2⟩
/-- A call, then what is behind it. -/
theorem segJ2 (hb : edgesBack ops = true) (R : Nat → Prop) {k : Nat} {ok : Oper} (hok : ops[k]? = some ok) (hRk : ¬ R k) (hR : ∀ q, R q → ∃ y, y < ops.size ∧ (y = k ∨ R y) ∧ reach ops ops.size q y = true) {K : Ph → Cls → AS → Prop}
    (cont : ∀ c s2 (listed' : Array Bool) (G' : Gh) (a' : Act) (w' : World), K .on c s2 → Un ops listed' R → Rel C E G' s2 a' w' → WA C r ops Q listed' a' w')
    (hrun : wpStep .seq .on C ops s ok K) {listed : Array Bool} (hU : Un ops listed (fun q => q = k ∨ R q)) (hr : Rel C E G s a w) : WA C r ops Q listed a w := by
  have hkn : k < ops.size := (Array.getElem?_eq_some_iff.1 hok).1
  refine WA.step hU hb hkn (.inl rfl) (fun i o hi ho hu hno next hnext => ?_)
  have hik : i = k := by
    rcases hu with hu | hu
    · exact hu
    · obtain ⟨y, h1, h2, h3⟩ := hR i hu
      exact (hno y h1 h2 h3).elim
  subst hik
  rw [hok] at ho; cases ho
  refine wpOpJ_ok hr hok hrun (fun c s2 G' a' w' hk hr' => hnext _ _ (cont c s2 _ G' a' w' hk ?_ hr'))
  have hst := (hU.step hi).1
  exact ⟨hst.sz, hst.cl, fun q hq => (hst.un q hq).trans ⟨fun h => h.1.resolve_left h.2, fun h => ⟨.inr h, fun e => hRk (e ▸ h)⟩⟩⟩
/-- What is checked of an order with two calls. -/
def schedOk2 (ops : Array Oper) (is1 : List Nat) (k1 : Nat) (is2 : List Nat) (k2 : Nat) (is3 : List Nat) : Bool :=
  edgesBack ops && is1.all (fun p => reach ops ops.size k1 p) && is2.all (fun q => reach ops ops.size q k1 && reach ops ops.size k2 q) && reach ops ops.size k2 k1 && is3.all (fun q => reach ops ops.size q k2) &&
    (is1 ++ k1 :: (is2 ++ k2 :: is3)).all (fun q => decide (q < ops.size)) && decide ((is1 ++ k1 :: (is2 ++ k2 :: is3)).Nodup) && (List.range ops.size).all fun q => (is1 ++ k1 :: (is2 ++ k2 :: is3)).contains q
theorem wpC_regD2 {id : Nat} {K : Ph → Exit → AS → Prop} (is1 : List Nat) (k1 : Nat) (is2 : List Nat) (k2 : Nat) (is3 : List Nat) {o1 o2 : Oper} (hs : schedOk2 ops is1 k1 is2 k2 is3 = true) (ho1 : ops[k1]? = some o1) (ho2 : ops[k2]? = some o2)
    (h : wpOps (.drawn False) .on C ops (opsAt ops is1) [] s (fun p cl1 s1 => psafeL ops is1 cl1 = true ∧ wpStep .seq p C ops s1 o1 (fun p _ s2 => wpOps (.drawn False) p C ops (opsAt ops is2) [] s2 (fun p cl s3 => psafeL ops is2 cl = true ∧
      wpStep .seq p C ops s3 o2 (fun p _ s4 => wpOps (.drawn False) p C ops (opsAt ops is3) [] s4 (fun p cl s5 => psafeL ops is3 cl = true ∧ K p .normal s5)))))) : escC C r id ops s K := by
  unfold schedOk2 at hs
  simp only [Bool.and_eq_true, decide_eq_true_eq, List.all_eq_true, List.mem_range, List.contains_eq_mem] at hs
  obtain ⟨⟨⟨⟨⟨⟨⟨hb, r1⟩, r2⟩, r21⟩, r3⟩, hn⟩, hnd⟩, hall⟩ := hs
  have nd1 := List.nodup_append.1 hnd
  have nd2 := List.nodup_cons.1 nd1.2.1
  have nd3 := List.nodup_append.1 nd2.2
  have nd4 := List.nodup_cons.1 nd3.2.1
  have b1 : ∀ q ∈ is1, q < ops.size := fun q hq => hn q (List.mem_append_left _ hq)
  have bk1 : k1 < ops.size := hn k1 (by simp)
  have b2 : ∀ q ∈ is2, q < ops.size := fun q hq => hn q (by simp [hq])
  have bk2 : k2 < ops.size := hn k2 (by simp)
  have b3 : ∀ q ∈ is3, q < ops.size := fun q hq => hn q (by simp [hq])
  show ACode C r (.region id ops true) s (K .on)
  refine ACode.ofWA (fun E G a w hr => ?_)
  obtain ⟨labs, s1, g1, g2, g3, g4⟩ := wpOps_okL b1 h
  have hm := map_fst_zip g1
  refine segA hb (fun q => q = k1 ∨ (q ∈ is2 ∨ q = k2 ∨ q ∈ is3)) (fun listed1 G1 a1 w1 hU1 hr1 => ?_) _ (is1.zip labs) rfl ?_ (pairs_of (by rw [zip_cls]; simpa [psafeL] using g3)) (by rw [hm]; exact nd1.1) (fun x hx => b1 x.1 (by rw [← hm]; exact List.mem_map_of_mem hx)) (fun q hq hq' => ?_) (fun q hq => ?_) (fun q hq => ?_) g2 hr
  · refine segJ2 hb (fun q => q ∈ is2 ∨ q = k2 ∨ q ∈ is3) ho1 (fun hR => ?_) (fun q hq => ?_) (fun c s2 listed2 G2 a2 w2 hk hU2 hr2 => ?_) g4 hU1 hr1
    · apply nd2.1
      rcases hR with h1 | h1 | h1
      · exact List.mem_append_left _ h1
      · rw [h1]; simp
      · simp [h1]
    · rcases hq with h1 | h1 | h1
      · exact ⟨k1, bk1, .inl rfl, (r2 q h1).1⟩
      · rw [h1]; exact ⟨k1, bk1, .inl rfl, r21⟩
      · exact ⟨k2, bk2, .inr (.inr (.inl rfl)), r3 q h1⟩
    · obtain ⟨labs2, s3, e1, e2, e3, e4⟩ := wpOps_okL b2 hk
      have hm2 := map_fst_zip e1
      refine segA hb (fun q => q = k2 ∨ q ∈ is3) (fun listed3 G3 a3 w3 hU3 hr3 => ?_) _ (is2.zip labs2) rfl ?_ (pairs_of (by rw [zip_cls]; simpa [psafeL] using e3)) (by rw [hm2]; exact nd3.1) (fun x hx => b2 x.1 (by rw [← hm2]; exact List.mem_map_of_mem hx)) (fun q hq hq' => ?_) (fun q hq => ?_) (fun q hq => ?_) e2 hr2
      · exact segJ hb ho2 (fun q hq => ⟨b3 q hq, r3 q hq⟩) nd3.2.1 (K := fun p s5 => K p .normal s5) (fun s5 G'' a'' w'' hk hr'' => ⟨s5, G'', hk, hr''⟩) e4 hU3 hr3
      · refine ⟨hU2.sz, hU2.cl, fun q hq => (hU2.un q hq).trans ?_⟩
        rw [hm2]
      · rw [hm2] at hq'
        exact nd3.2.2 q hq' q (List.mem_cons.2 hq) rfl
      · rcases hq with rfl | hq
        · exact bk2
        · exact b3 q hq
      · rcases hq with rfl | hq
        · exact .inl (fun x hx => (r2 x.1 (by rw [← hm2]; exact List.mem_map_of_mem hx)).2)
        · exact .inr ⟨k2, .inl rfl, r3 q hq⟩
  · have h0 := un0 (ops := ops) (zs := [])
    refine ⟨h0.sz, h0.cl, fun q hq => (h0.un q hq).trans ⟨fun _ => ?_, fun _ => trivial⟩⟩
    rw [hm]
    have := hall q hq
    simp only [List.mem_append, List.mem_cons] at this
    exact this
  · rw [hm] at hq'
    refine nd1.2.2 q hq' q ?_ rfl
    simp only [List.mem_append, List.mem_cons]
    exact hq
  · rcases hq with rfl | hq | rfl | hq
    · exact bk1
    · exact b2 q hq
    · exact bk2
    · exact b3 q hq
  · rcases hq with rfl | hq | rfl | hq
    · exact .inl (fun x hx => r1 x.1 (by rw [← hm]; exact List.mem_map_of_mem hx))
    · exact .inr ⟨k1, .inl rfl, (r2 q hq).1⟩
    · exact .inr ⟨k1, .inl rfl, r21⟩
    · exact .inr ⟨k2, .inr (.inr (.inl rfl)), r3 q hq⟩
theorem opsAt_nil : opsAt ops [] = [] := rfl
theorem opsAt_cons {i : Nat} {is : List Nat} : opsAt ops (i :: is) = (match ops[i]? with | some o => o :: opsAt ops is | none => opsAt ops is) := by
  unfold opsAt
  rw [List.filterMap_cons]
  cases ops[i]? <;> rfl
attribute [simp] opsAt_nil opsAt_cons
end
end Go.Proofs.AL
namespace Go.Proofs.AL
open Go Go.RowKit
set_option linter.unusedVariables false
set_option linter.unusedSimpArgs false

/-! ## .. where a chain of operations may come ahead of the call or behind it -/
section
variable {C : Cx} {E : Env} {G : Gh} {s : AS} {a : Act} {w : World} {ops : Array Oper} {r : Option Nat} {Q : Exit → Act → World → Prop}
def Conts (C : Cx) (E : Env) (r : Option Nat) (ops : Array Oper) (Q : Exit → Act → World → Prop) (k : Nat) (is3 : List Nat) : List (Nat × Lab) → AS → Prop
  | zs, s => (∀ (listed' : Array Bool) (G' : Gh) (a' : Act) (w' : World), Un ops listed' (fun q => (q = k ∨ q ∈ is3) ∨ q ∈ zs.map (·.1)) → k ∈ Region.ready .any ops listed' → Rel C E G' s a' w' → ∀ next, (∀ a'' w'', WA C r ops Q (listed'.setIfInBounds k true) a'' w'' → next a'' w'') → wpOpIn (Fr r) 0 C.P ops Q k next a' w') ∧
    match zs with
    | [] => True
    | (z, lz) :: zs => ∃ oz s', ops[z]? = some oz ∧ Stp C ops oz lz s s' ∧ Conts C E r ops Q k is3 zs s'
theorem segF (hb : edgesBack ops = true) {k : Nat} {is3 : List Nat} (hk : k < ops.size) (h3 : ∀ q ∈ is3, reach ops ops.size q k = true) :
    ∀ (n : Nat) (zs L : List (Nat × Lab)), L.length + zs.length = n → ∀ {listed : Array Bool} {s s1 : AS} {G : Gh} {a : Act} {w : World}, Conts C E r ops Q k is3 zs s1 → Un ops listed (fun q => q ∈ L.map (·.1) ∨ (q = k ∨ q ∈ is3) ∨ q ∈ zs.map (·.1)) → L.Pairwise (fun x y => reach ops ops.size y.1 x.1 = true ∨ IndepL ops x y) →
      (L.map (·.1) ++ k :: is3 ++ zs.map (·.1)).Nodup → (∀ x ∈ L, x.1 < ops.size) → (∀ x ∈ zs, x.1 < ops.size) → (∀ x ∈ L, reach ops ops.size k x.1 = true) → zs.Pairwise (fun x y => reach ops ops.size y.1 x.1 = true) → (∀ x ∈ L, ∀ z ∈ zs, reach ops ops.size z.1 x.1 = true ∨ IndepL ops x z) → DerL C ops L s s1 → Rel C E G s a w → WA C r ops Q listed a w := by
  intro n
  induction n with
  | zero =>
    intro zs L hn listed s s1 G a w hC hU hp hnd hlt hzn hkL hch hind hd hr
    have hL : L = [] := List.eq_nil_of_length_eq_zero (by omega)
    have hz : zs = [] := List.eq_nil_of_length_eq_zero (by omega)
    subst hL hz
    cases hd
    refine WA.step hU hb hk (.inr (.inl (.inl rfl))) (fun i o hi ho hu hno next hnext => ?_)
    rcases hu with hu | (hu | hu) | hu
    · cases hu
    · subst hu
      unfold Conts at hC
      exact hC.1 listed G a w ⟨hU.sz, hU.cl, fun q hq => by simpa using hU.un q hq⟩ hi hr next hnext
    · exact (hno k hk (.inr (.inl (.inl rfl))) (h3 i hu)).elim
    · cases hu
  | succ n ih =>
    intro zs L hn listed s s1 G a w hC hU hp hnd hlt hzn hkL hch hind hd hr
    have hnA := List.nodup_append.1 hnd
    have hnB := List.nodup_append.1 hnA.1
    refine WA.step hU hb hk (.inr (.inl (.inl rfl))) (fun i o hi ho hu hno next hnext => ?_)
    rcases hu with hu | (hu | hu) | hu
    · obtain ⟨⟨j, lb⟩, hx, hji⟩ := List.mem_map.1 hu
      have hji : j = i := hji
      subst hji
      obtain ⟨pre, post, rfl⟩ := List.append_of_mem hx
      have hp' := List.pairwise_append.1 hp
      have hind' : ∀ p ∈ pre, IndepL ops p (j, lb) := fun p hpp => by
        rcases hp'.2.2 p hpp (j, lb) (List.mem_cons_self) with h1 | h1
        · exact (hno p.1 (hlt p (List.mem_append_left _ hpp)) (.inl (List.mem_map_of_mem (List.mem_append_left _ hpp))) h1).elim
        · exact h1
      have hpick := hd.pick pre hind'
      cases hpick with
      | cons ho' hs' hr' =>
        rw [ho] at ho'; cases ho'
        refine hs'.ok hr ho (fun G' a' w' hrel => hnext _ _ ?_)
        have hsub : ∀ y, y ∈ pre ++ post → y ∈ pre ++ (j, lb) :: post := fun y hy => by
          rcases List.mem_append.1 hy with h1 | h1
          · exact List.mem_append_left _ h1
          · exact List.mem_append_right _ (List.mem_cons_of_mem _ h1)
        have hsl : List.Sublist (pre ++ post) (pre ++ (j, lb) :: post) := List.Sublist.append (List.Sublist.refl _) (List.sublist_cons_self _ _)
        have hndL : ((pre ++ post).map (·.1)).Nodup ∧ j ∉ (pre ++ post).map (·.1) := by
          have h1 := hnB.1
          rw [List.map_append, List.map_cons] at h1
          have h2 := List.nodup_append.1 h1
          have h3 := List.nodup_cons.1 h2.2.1
          rw [List.map_append]
          refine ⟨List.nodup_append.2 ⟨h2.1, h3.2, fun y hy z hz => h2.2.2 y hy z (List.mem_cons_of_mem _ hz)⟩, fun hm => ?_⟩
          rcases List.mem_append.1 hm with hm | hm
          · exact h2.2.2 _ hm _ (List.mem_cons_self) rfl
          · exact h3.1 hm
        refine ih zs (pre ++ post) (by simp at hn ⊢; omega) hC ?_ ?_ ?_ (fun y hy => hlt y (hsub y hy)) hzn (fun y hy => hkL y (hsub y hy)) hch (fun y hy => hind y (hsub y hy)) hr' hrel
        · have hst := (hU.step hi).1
          have hjk : j ∈ ((pre ++ (j, lb) :: post).map (·.1)) := List.mem_map_of_mem (f := fun x : Nat × Lab => x.1) hx
          refine ⟨hst.sz, hst.cl, fun q hq => (hst.un q hq).trans ⟨fun h => ?_, fun h => ?_⟩⟩
          · rcases h.1 with h1 | h1
            · refine .inl ?_
              rw [List.map_append, List.map_cons] at h1
              rw [List.map_append]
              rcases List.mem_append.1 h1 with h1 | h1
              · exact List.mem_append_left _ h1
              · rcases List.mem_cons.1 h1 with h1 | h1
                · exact absurd h1 h.2
                · exact List.mem_append_right _ h1
            · exact .inr h1
          · rcases h with h1 | h1
            · refine ⟨.inl ?_, fun e => hndL.2 (e ▸ h1)⟩
              obtain ⟨y, hy, rfl⟩ := List.mem_map.1 h1
              exact List.mem_map_of_mem (hsub y hy)
            · refine ⟨.inr h1, fun e => ?_⟩
              subst e
              rcases h1 with h1 | h1
              · exact hnB.2.2 _ hjk _ (List.mem_cons.2 h1) rfl
              · exact hnA.2.2 _ (List.mem_append_left _ hjk) _ h1 rfl
        · rw [List.pairwise_append] at hp ⊢
          have h2 := List.pairwise_cons.1 hp.2.1
          exact ⟨hp.1, h2.2, fun y hy z hz => hp.2.2 y hy z (List.mem_cons_of_mem _ hz)⟩
        · exact hnd.sublist (List.Sublist.append (List.Sublist.append (hsl.map _) (List.Sublist.refl _)) (List.Sublist.refl _))
    · subst hu
      cases L with
      | cons x L => exact (hno x.1 (hlt x List.mem_cons_self) (.inl (by simp)) (hkL x List.mem_cons_self)).elim
      | nil =>
        cases hd
        unfold Conts at hC
        exact hC.1 listed G a w ⟨hU.sz, hU.cl, fun q hq => by simpa using hU.un q hq⟩ hi hr next hnext
    · exact (hno k hk (.inr (.inl (.inl rfl))) (h3 i hu)).elim
    · cases zs with
      | nil => cases hu
      | cons z1 zs =>
        obtain ⟨z, lz⟩ := z1
        have hch' := List.pairwise_cons.1 hch
        have hiz : i = z := by
          rw [List.map_cons] at hu
          rcases List.mem_cons.1 hu with h1 | h1
          · exact h1
          · obtain ⟨y, hy, rfl⟩ := List.mem_map.1 h1
            exact (hno z (hzn (z, lz) List.mem_cons_self) (.inr (.inr (by simp))) (hch'.1 y hy)).elim
        subst hiz
        unfold Conts at hC
        obtain ⟨-, oz, sA, hoz, hsz, hC'⟩ := hC
        rw [ho] at hoz; cases hoz
        have hall := (hd.snoc (x := (i, lz)) ho hsz).pick L (fun x hx => by
          rcases hind x hx (i, lz) List.mem_cons_self with h1 | h1
          · exact (hno x.1 (hlt x hx) (.inl (List.mem_map_of_mem (f := fun x : Nat × Lab => x.1) hx)) h1).elim
          · exact h1)
        rw [List.append_nil] at hall
        cases hall with
        | cons ho' hs' hr' =>
          rw [ho] at ho'; cases ho'
          refine hs'.ok hr ho (fun G' a' w' hrel => hnext _ _ ?_)
          have hni : i ∉ L.map (·.1) ∧ ¬ (i = k ∨ i ∈ is3) ∧ i ∉ zs.map (·.1) := by
            have h1 : i ∈ ((i, lz) :: zs).map (·.1) := by simp
            refine ⟨fun h => hnA.2.2 i (List.mem_append_left _ h) i h1 rfl, fun h => hnA.2.2 i (List.mem_append_right _ (List.mem_cons.2 h)) i h1 rfl, (List.nodup_cons.1 hnA.2.1).1⟩
          refine ih zs L (by simp at hn; omega) hC' ?_ hp ?_ hlt (fun x hx => hzn x (List.mem_cons_of_mem _ hx)) hkL hch'.2 (fun x hx z hz => hind x hx z (List.mem_cons_of_mem _ hz)) hr' hrel
          · have hst := (hU.step hi).1
            refine ⟨hst.sz, hst.cl, fun q hq => (hst.un q hq).trans ⟨fun h => ?_, fun h => ?_⟩⟩
            · rcases h.1 with h1 | h1 | h1
              · exact .inl h1
              · exact .inr (.inl h1)
              · rw [List.map_cons] at h1
                rcases List.mem_cons.1 h1 with h1 | h1
                · exact absurd h1 h.2
                · exact .inr (.inr h1)
            · rcases h with h1 | h1 | h1
              · exact ⟨.inl h1, fun e => hni.1 (e ▸ h1)⟩
              · exact ⟨.inr (.inl h1), fun e => hni.2.1 (e ▸ h1)⟩
              · exact ⟨.inr (.inr (List.mem_cons_of_mem _ h1)), fun e => hni.2.2 (e ▸ h1)⟩
          · exact hnd.sublist (List.Sublist.append (List.Sublist.refl _) (by rw [List.map_cons]; exact List.sublist_cons_self _ _))
/-- z may come ahead of what it doesn't wait for. -/
def fchk (ops : Array Oper) (z : Nat) (cz : Cls) (pre : List (Nat × Cls)) : Bool := pre.all fun x => reach ops ops.size z x.1 || indepL ops x.1 z x.2 cz
/-- The call at each point of the chain. -/
def floatK (C : Cx) (ops : Array Oper) (ok : Oper) (K : Ph → Exit → AS → Prop) (pre : List (Nat × Cls)) (is3 : List Nat) : List (Nat × Oper × List Nat) → Ph → AS → Prop
  | [], p, s => wpStep .seq p C ops s ok (fun p _ s2 => wpOps (.drawn False) p C ops (opsAt ops is3) [] s2 (fun p cl s3 => psafeL ops is3 cl = true ∧ K p .normal s3))
  | (z, oz, is2) :: zs, p, s => wpStep .seq p C ops s ok (fun p _ s2 => wpOps (.drawn False) p C ops (opsAt ops is2) [] s2 (fun p cl s3 => psafeL ops is2 cl = true ∧ K p .normal s3)) ∧
      wpStep (.drawn False) p C ops s oz (fun p cz sA => fchk ops z cz pre = true ∧ floatK C ops ok K pre is3 zs p sA)
def fltOk (is3 : List Nat) : List (Nat × Oper × List Nat) → Bool
  | [] => true
  | (z, _, is2) :: zs => decide (is2.Nodup) && is2.all (fun q => is3.contains q || (z :: zs.map (·.1)).contains q) && (is3 ++ z :: zs.map (·.1)).all (fun q => is2.contains q) && fltOk is3 zs
def atOk (ops : Array Oper) : List (Nat × Oper × List Nat) → Prop
  | [] => True
  | (z, oz, _) :: zs => ops[z]? = some oz ∧ atOk ops zs
def chainOk (ops : Array Oper) : List Nat → Bool
  | [] => true
  | z :: zs => zs.all (fun y => reach ops ops.size y z) && chainOk ops zs
theorem chain_of {zs : List (Nat × Lab)} (h : chainOk ops (zs.map (·.1)) = true) : zs.Pairwise (fun x y => reach ops ops.size y.1 x.1 = true) := by
  induction zs with
  | nil => exact .nil
  | cons x zs ih =>
    simp only [List.map_cons, chainOk, Bool.and_eq_true, List.all_eq_true] at h
    exact .cons (fun y hy => h.1 y.1 (List.mem_map_of_mem (f := fun x : Nat × Lab => x.1) hy)) (ih h.2)
theorem callAt (hb : edgesBack ops = true) {k : Nat} {is3 zs is2 : List Nat} {ok : Oper} (hok : ops[k]? = some ok) (h2 : ∀ q ∈ is2, q < ops.size) (hnd : is2.Nodup) (hk2 : k ∉ is2) (hm : ∀ q, q ∈ is2 ↔ q ∈ is3 ∨ q ∈ zs) {K : Ph → Exit → AS → Prop}
    (hrun : wpStep .seq .on C ops s ok (fun p _ s2 => wpOps (.drawn False) p C ops (opsAt ops is2) [] s2 (fun p cl s3 => psafeL ops is2 cl = true ∧ K p .normal s3)))
    {listed : Array Bool} (hU : Un ops listed (fun q => (q = k ∨ q ∈ is3) ∨ q ∈ zs)) (hi : k ∈ Region.ready .any ops listed) (hr : Rel C E G s a w) {next : Act → World → Prop} (hnext : ∀ a'' w'', WA C r ops (fun e a' w' => ∃ s' G', K .on e s' ∧ Rel C E G' s' a' w') (listed.setIfInBounds k true) a'' w'' → next a'' w'') :
    wpOpIn (Fr r) 0 C.P ops (fun e a' w' => ∃ s' G', K .on e s' ∧ Rel C E G' s' a' w') k next a w := by
  refine wpOpJ_ok hr hok hrun (fun c s2 G' a' w' hk hr' => hnext _ _ ?_)
  obtain ⟨labs, s3, f1, f2, f3, f4⟩ := wpOps_okL h2 hk
  have hm2 := map_fst_zip f1
  refine segA hb (fun _ => False) (fun listed' G'' a'' w'' hU' hr'' => WA.done hU' (fun _ _ h => h) ⟨s3, G'', f4, hr''⟩) _ (is2.zip labs) rfl ?_ (pairs_of (by rw [zip_cls]; simpa [psafeL] using f3)) (by rw [hm2]; exact hnd) (fun x hx => h2 x.1 (by rw [← hm2]; exact List.mem_map_of_mem hx)) (fun _ h => h.elim) (fun _ h => h.elim) (fun _ h => h.elim) f2 hr'
  have hst := (hU.step hi).1
  refine ⟨hst.sz, hst.cl, fun q hq => (hst.un q hq).trans ?_⟩
  rw [hm2]
  refine ⟨fun h => ?_, fun h => ?_⟩
  · rcases h.1 with (h1 | h1) | h1
    · exact absurd h1 h.2
    · exact .inl ((hm q).2 (.inl h1))
    · exact .inl ((hm q).2 (.inr h1))
  · have h := h.resolve_right (fun h => h)
    refine ⟨?_, fun e => hk2 (e ▸ h)⟩
    rcases (hm q).1 h with h1 | h1
    · exact .inl (.inr h1)
    · exact .inr h1
theorem conts_of (hb : edgesBack ops = true) {k : Nat} {is3 : List Nat} {ok : Oper} (hok : ops[k]? = some ok) (h3 : ∀ q ∈ is3, q < ops.size) (hnd : is3.Nodup) (hk3 : k ∉ is3) {K : Ph → Exit → AS → Prop} {pre : List (Nat × Cls)} :
    ∀ (zs : List (Nat × Oper × List Nat)) {s : AS}, fltOk is3 zs = true → atOk ops zs → k ∉ zs.map (·.1) → floatK C ops ok K pre is3 zs .on s →
      ∃ labs : List Lab, labs.length = zs.length ∧ Conts C E r ops (fun e a' w' => ∃ s' G', K .on e s' ∧ Rel C E G' s' a' w') k is3 ((zs.map (·.1)).zip labs) s ∧ ∀ x ∈ pre, ∀ z ∈ (zs.map (·.1)).zip labs, reach ops ops.size z.1 x.1 = true ∨ indepL ops x.1 z.1 x.2 (cls z.2) = true
  | [], s, _, _, _, h => ⟨[], rfl, by
      unfold Conts
      exact ⟨fun listed' G' a' w' hU hi hr next hnext => callAt (is2 := is3) (zs := []) hb hok h3 hnd hk3 (fun q => ⟨fun h => .inl h, fun h => h.resolve_right (by simp)⟩) h ⟨hU.sz, hU.cl, fun q hq => by simpa using hU.un q hq⟩ hi hr hnext, trivial⟩, by simp⟩
  | (z, oz, is2) :: zs, s, hf, hat, hkz, h => by
    unfold floatK at h
    obtain ⟨hA, hB⟩ := h
    obtain ⟨lz, sA, hst, hpre, hrest⟩ := wpStep_stp hB
    unfold fltOk at hf
    simp only [Bool.and_eq_true, decide_eq_true_eq, List.all_eq_true, Bool.or_eq_true, List.contains_eq_mem] at hf
    obtain ⟨⟨⟨f1, f2⟩, f3⟩, f4⟩ := hf
    obtain ⟨labs, g1, g2, g3⟩ := conts_of hb hok h3 hnd hk3 zs f4 hat.2 (fun hm => hkz (List.mem_cons_of_mem _ hm)) hrest
    have hall : ∀ q ∈ z :: zs.map (·.1), q < ops.size := by
      have key : ∀ zs : List (Nat × Oper × List Nat), atOk ops zs → ∀ q ∈ zs.map (·.1), q < ops.size := by
        intro zs
        induction zs with
        | nil => intro _ q hq; cases hq
        | cons y zs ih =>
          obtain ⟨y, oy, iy⟩ := y
          intro h q hq
          rcases List.mem_cons.1 hq with rfl | hq
          · exact (Array.getElem?_eq_some_iff.1 h.1).1
          · exact ih h.2 q hq
      exact key ((z, oz, is2) :: zs) hat
    refine ⟨lz :: labs, by simp [g1], ?_, ?_⟩
    · rw [List.map_cons, List.zip_cons_cons]
      unfold Conts
      refine ⟨fun listed' G' a' w' hU hi hr next hnext => ?_, oz, sA, hat.1, hst, g2⟩
      have hml : ((zs.map (·.1)).zip labs).map (·.1) = zs.map (·.1) := map_fst_zip (by simp [g1])
      refine callAt (zs := z :: zs.map (·.1)) (is2 := is2) hb hok (fun q hq => ?_) f1 (fun hm => ?_) (fun q => ⟨fun hq => f2 q hq, fun hq => f3 q ?_⟩) hA ⟨hU.sz, hU.cl, fun q hq => by rw [hU.un q hq, List.map_cons, hml]⟩ hi hr hnext
      · rcases f2 q hq with h1 | h1
        · exact h3 q h1
        · exact hall q h1
      · rcases f2 k hm with h1 | h1
        · exact hk3 h1
        · exact hkz h1
      · rcases hq with h1 | h1
        · exact List.mem_append_left _ h1
        · exact List.mem_append_right _ h1
    · intro x hx y hy
      rw [List.map_cons, List.zip_cons_cons] at hy
      rcases List.mem_cons.1 hy with rfl | hy
      · unfold fchk at hpre
        have := List.all_eq_true.1 hpre x hx
        rwa [Bool.or_eq_true] at this
      · exact g3 x hx y hy
/-- One call; a chain of operations may come ahead of it or behind it, each with what is behind the call where it comes ahead of this one of the chain; is3: what is behind the call and the whole chain. -/
theorem wpC_regF {id : Nat} {K : Ph → Exit → AS → Prop} (is1 : List Nat) (k : Nat) (is3 : List Nat) (zs : List (Nat × Oper × List Nat)) {ok : Oper} (hs : schedOk ops is1 k is3 (zs.map (·.1)) = true) (hc : (fltOk is3 zs && chainOk ops (zs.map (·.1))) = true) (hok : ops[k]? = some ok) (hat : atOk ops zs)
    (h : wpOps (.drawn False) .on C ops (opsAt ops is1) [] s (fun p cl1 s1 => psafeL ops is1 cl1 = true ∧ floatK C ops ok K (is1.zip cl1) is3 zs p s1)) : escC C r id ops s K := by
  have hS := Sched.of hs
  rw [Bool.and_eq_true] at hc
  show ACode C r (.region id ops true) s (K .on)
  refine ACode.ofWA (fun E G a w hr => ?_)
  obtain ⟨labs, s1, g1, g2, g3, g4⟩ := wpOps_okL (fun j hj => (hS.n1 j hj).1) h
  rw [List.reverse_nil, List.nil_append] at g3 g4
  have hm := map_fst_zip g1
  have hnd1 := List.nodup_append.1 hS.nd
  have hnd2 := List.nodup_append.1 hnd1.1
  have hnd3 := List.nodup_cons.1 hnd2.2.1
  obtain ⟨zl, z1, z2, z3⟩ := conts_of (E := E) (r := r) hS.back hok (fun q hq => (hS.n2 q hq).1) hnd3.2 hnd3.1 zs hc.1 hat (fun hm => hnd1.2.2 k (by simp) k hm rfl) g4
  have hmz : ((zs.map (·.1)).zip zl).map (·.1) = zs.map (·.1) := map_fst_zip (by simp [z1])
  refine segF hS.back hS.kn (fun q hq => (hS.n2 q hq).2) _ _ (is1.zip labs) rfl z2 ?_ (pairs_of (by rw [zip_cls]; simpa [psafeL] using g3)) (by rw [hm, hmz]; exact hS.nd) (fun x hx => (hS.n1 x.1 (by rw [← hm]; exact List.mem_map_of_mem hx)).1) (fun x hx => hS.nz x.1 (by rw [← hmz]; exact List.mem_map_of_mem hx)) (fun x hx => (hS.n1 x.1 (by rw [← hm]; exact List.mem_map_of_mem hx)).2) (chain_of (by rw [hmz]; exact hc.2)) (fun x hx z hz => ?_) g2 hr
  · have h0 := un0 (ops := ops) (zs := [])
    refine ⟨h0.sz, h0.cl, fun q hq => (h0.un q hq).trans ⟨fun _ => ?_, fun _ => trivial⟩⟩
    rw [hm, hmz]
    rcases List.mem_append.1 (hS.all q hq) with h1 | h1
    · rcases List.mem_append.1 h1 with h1 | h1
      · exact .inl h1
      · exact .inr (.inl (List.mem_cons.1 h1))
    · exact .inr (.inr h1)
  · have h1 : (x.1, cls x.2) ∈ is1.zip (labs.map cls) := by
      rw [← zip_cls]
      exact List.mem_map_of_mem (f := fun x : Nat × Lab => (x.1, cls x.2)) hx
    exact z3 _ h1 z hz
theorem floatK_nil {ok : Oper} {K : Ph → Exit → AS → Prop} {pre : List (Nat × Cls)} {is3 : List Nat} {p : Ph} {s : AS} : floatK C ops ok K pre is3 [] p s = wpStep .seq p C ops s ok (fun p _ s2 => wpOps (.drawn False) p C ops (opsAt ops is3) [] s2 (fun p cl s3 => psafeL ops is3 cl = true ∧ K p .normal s3)) := rfl
theorem floatK_cons {ok oz : Oper} {K : Ph → Exit → AS → Prop} {pre : List (Nat × Cls)} {is2 is3 : List Nat} {z : Nat} {zs : List (Nat × Oper × List Nat)} {p : Ph} {s : AS} : floatK C ops ok K pre is3 ((z, oz, is2) :: zs) p s = (wpStep .seq p C ops s ok (fun p _ s2 => wpOps (.drawn False) p C ops (opsAt ops is2) [] s2 (fun p cl s3 => psafeL ops is2 cl = true ∧ K p .normal s3)) ∧
      wpStep (.drawn False) p C ops s oz (fun p cz sA => fchk ops z cz pre = true ∧ floatK C ops ok K pre is3 zs p sA)) := rfl
attribute [simp] floatK_nil floatK_cons
end
/-! ## classes under other numbers -/
def Cls.mp (f : Nat → Nat) : Cls → Cls
  | .ld i => .ld (f i)
  | .st i => .st (f i)
  | .new i => .new (f i)
  | .comp => .comp
  | .tok => .tok
def pickN (xs : List Nat) (i : Nat) : Nat := xs.getD i (i + 1 + xs.sum)
theorem le_sum : ∀ {xs : List Nat} {x : Nat}, x ∈ xs → x ≤ xs.sum
  | y :: xs, x, h => by
    rw [List.sum_cons]
    rcases List.mem_cons.1 h with rfl | h
    · omega
    · have := le_sum h; omega
theorem pickN_inj {xs : List Nat} (h : xs.Nodup) (i j : Nat) (e : pickN xs i = pickN xs j) : i = j := by
  unfold pickN at e
  rw [List.getD_eq_getElem?_getD, List.getD_eq_getElem?_getD] at e
  by_cases h1 : i < xs.length <;> by_cases h2 : j < xs.length
  · rw [List.getElem?_eq_getElem h1, List.getElem?_eq_getElem h2] at e
    exact (List.getElem_inj h).1 e
  · rw [List.getElem?_eq_getElem h1, List.getElem?_eq_none (by omega)] at e
    have := le_sum (List.getElem_mem h1)
    have e : xs[i] = j + 1 + xs.sum := e
    omega
  · rw [List.getElem?_eq_getElem h2, List.getElem?_eq_none (by omega)] at e
    have := le_sum (List.getElem_mem h2)
    have e : i + 1 + xs.sum = xs[j] := e
    omega
  · rw [List.getElem?_eq_none (by omega), List.getElem?_eq_none (by omega)] at e
    have e : i + 1 + xs.sum = j + 1 + xs.sum := e
    omega
theorem clash_mp {f : Nat → Nat} (hf : ∀ i j, f i = f j → i = j) (a b : Cls) : clash (a.mp f) (b.mp f) = clash a b := by
  have key : ∀ i j, (f i == f j) = (i == j) := fun i j => by
    rw [Bool.eq_iff_iff, beq_iff_eq, beq_iff_eq]
    exact ⟨hf i j, fun e => by rw [e]⟩
  cases a <;> cases b <;> simp only [Cls.mp, clash, key]
theorem psafeC_mp {ops : Array Oper} {f : Nat → Nat} (hf : ∀ i j, f i = f j → i = j) (cl : List Cls) : psafeC ops (cl.map (Cls.mp f)) = psafeC ops cl := by
  unfold psafeC
  congr 1
  congr 1
  funext j
  congr 1
  funext i
  congr 1
  unfold indepC
  simp only [List.getElem?_map]
  cases ops[i]? <;> cases ops[j]? <;> cases cl[i]? <;> cases cl[j]? <;> simp [clash_mp hf]
theorem psafe_ids {ops : Array Oper} (xs : List Nat) (cl : List Cls) {cl' : List Cls} (hn : xs.Nodup) (h : cl' = cl.map (Cls.mp (pickN xs))) (h0 : psafeC ops cl = true) : psafeC ops cl' = true := by
  rw [h, psafeC_mp (pickN_inj hn)]; exact h0
theorem indepL_mp {ops : Array Oper} {f : Nat → Nat} (hf : ∀ i j, f i = f j → i = j) (i j : Nat) (a b : Cls) : indepL ops i j (a.mp f) (b.mp f) = indepL ops i j a b := by
  unfold indepL
  rw [clash_mp hf]
theorem pairsL_mp {ops : Array Oper} {f : Nat → Nat} (hf : ∀ i j, f i = f j → i = j) : ∀ (l : List (Nat × Cls)), pairsL ops (l.map fun x => (x.1, x.2.mp f)) = pairsL ops l
  | [] => rfl
  | x :: l => by
    rw [List.map_cons]
    unfold pairsL
    rw [pairsL_mp hf l, List.all_map]
    congr 1
    congr 1
    funext y
    show (reach ops ops.size y.1 x.1 || indepL ops x.1 y.1 (x.2.mp f) (y.2.mp f)) = _
    rw [indepL_mp hf]
theorem psafeL_ids {ops : Array Oper} {is : List Nat} (xs : List Nat) (cl : List Cls) {cl' : List Cls} (hn : xs.Nodup) (h : cl' = cl.map (Cls.mp (pickN xs))) (h0 : psafeL ops is cl = true) : psafeL ops is cl' = true := by
  rw [h]
  unfold psafeL
  rw [List.zip_map_right]
  exact (pairsL_mp (pickN_inj hn) _).trans h0
/-! ## A row that isn't told of any more is frozen -/
theorem Rel.refroze {C : Cx} {E : Env} {G : Gh} {s : AS} {a : Act} {w w' : World} (h : Rel C E G s a w) {k : Nat} {e : TypeId} {g n c : Nat} (hk : s.live k = some (.ty e)) (hv : G.tk k = some (.slice (some ⟨g, 0, none⟩) n c)) {cur : Array Value} {T : TypeId} {q q' : Nat × Nat}
    (hg : w.heap[g]? = some (.cells cur T q)) (hg' : w'.heap[g]? = some (.cells cur T q')) (hne : ∀ j, j ≠ g → w'.heap[j]? = w.heap[j]?) (hsz : w'.heap.size = w.heap.size) (h1 : w'.os = w.os) (h2 : w'.tape = w.tape) (h3 : w'.output = w.output) :
    Rel C E G { s with live := fun t => if t = k then none else s.live t } a w' := by
  obtain ⟨v0, b1, b2⟩ := h.lv k _ hk
  rw [hv] at b1
  cases b1
  obtain ⟨f1, f2, f3, f4⟩ := b2.facts (g := g) rfl
  have hd := h.dropTok k
  have mo : Mo G w G w' := ⟨fun b o v e1 e2 => ⟨e1, by
    by_cases hb : b = g
    · subst hb
      unfold World.cell? at e2 ⊢
      rw [hg] at e2
      rw [hg']
      exact e2
    · rw [World.cell?_of_block (hne b hb)]; exact e2⟩, fun _ _ e => e, fun _ _ e => e, fun x ⟨cur2, q2, e2, hs⟩ => by
      by_cases hb : x.1 = g
      · rw [hb, hg] at e2
        cases e2
        exact ⟨_, q', by rw [hb]; exact hg', hs⟩
      · exact ⟨cur2, q2, (hne x.1 hb).trans e2, hs⟩, fun b ⟨es, c2, e2⟩ => by
      have hb : b ≠ g := by rintro rfl; rw [hg] at e2; cases e2
      exact ⟨es, c2, (hne b hb).trans e2⟩⟩
  have hst : ∀ (l : Nat) (o : Obj), Stays E.w0.heap.size w l o → Stays E.w0.heap.size w' l o := fun l o ho => by
    have hb : l ≠ g := by rintro rfl; exact ho.2.2 cur T q (Option.some.inj (ho.2.1.symm.trans hg))
    exact ⟨ho.1, (hne l hb).trans ho.2.1, ho.2.2⟩
  refine { hd with tm := ?_, be := ?_, mz := ?_, ob := ?_, lv := ?_, df := ?_, mo := hd.mo.trans mo, lp := ?_, ls := ?_, mks := fun D hD => hst D _ (hd.mks D hD) }
  · intro t x hx
    obtain ⟨v, e1, e2⟩ := hd.tm t x hx
    exact ⟨v, e1, e2.mono mo⟩
  · refine ⟨fun d hd' => ?_, hd.df.2⟩
    obtain ⟨D, rfl, k2⟩ := hd.df.1 d hd'
    exact ⟨D, rfl, hst D _ k2⟩
  · intro l r hl
    exact hst l _ (hd.lp l r hl)
  · intro l r t x hl hx
    obtain ⟨v, e1, e2⟩ := hd.ls l r t x hl hx
    exact ⟨v, e1, e2.mono mo⟩
  · exact ⟨h1.trans h.be.os, h2.trans h.be.tape, h3.trans h.be.output, by rw [hsz]; exact h.be.size, fun j hj => (hne j (by omega)).trans (h.be.block j hj)⟩
  · intro b hb
    exact h.mz b (by rw [← hsz]; exact hb)
  · intro i ds b hi hb
    obtain ⟨a1, a2, a3⟩ := hd.ob i ds b hi hb
    have hb' : b ≠ g := by rintro rfl; exact f4 i hb
    exact ⟨a1, a2.keep rfl (hne b hb'), a3.mono mo (hne b hb')⟩
  · intro t e2 he
    obtain ⟨v, c1, c2⟩ := hd.lv t e2 he
    have htk : ¬ t = k := fun q => by
      have he : (if t = k then none else s.live t) = some e2 := he
      rw [if_pos q] at he; cases he
    have hls : s.live t = some e2 := by
      have he : (if t = k then none else s.live t) = some e2 := he
      rwa [if_neg htk] at he
    refine ⟨v, c1, c2.keep mo (fun g2 hg2 hn _ => ?_)⟩
    have hgg : g2 ≠ g := by
      rintro rfl
      exact htk (h.ld t k e2 _ v _ g2 hls hk c1 hv hg2 rfl)
    exact ⟨hne g2 hgg, rfl, hn⟩
end Go.Proofs.AL
namespace Go.Proofs.AL
open Go Go.RowKit
set_option linter.unusedSimpArgs false
set_option linter.unusedVariables false

/-! ## The package's variables; own variables that become cells for good -/
section
variable {C : Cx}
/-- What these variables hold stays. -/
def GlobOk (C : Cx) (gl : List (Nat × List AV)) : Prop := ∀ (m : Nat → Nat) (w : World), C.GI m w → ∀ q ∈ gl, V (gh1 m) w (.cptr q.2) (.pointer (some ⟨q.1, 0, none⟩))
def glM (gl : List (Nat × List AV)) : List (Nat × AV) := gl.map fun q => (1099511627776 + q.1, .cptr q.2)
theorem look_glM : ∀ (gl : List (Nat × List AV)) (t : Nat) (x : AV), look (glM gl) t = some x → ∃ q ∈ gl, t = gB + q.1 ∧ x = .cptr q.2
  | [], t, x, h => by cases h
  | q :: gl, t, x, h => by
    have h : (if 1099511627776 + q.1 = t then some (AV.cptr q.2) else look (glM gl) t) = some x := h
    split at h
    · rename_i e
      cases h
      exact ⟨q, List.mem_cons_self, e.symm, rfl⟩
    · obtain ⟨q', h1, h2⟩ := look_glM gl t x h
      exact ⟨q', List.mem_cons_of_mem _ h1, h2⟩
theorem Rel.glob {E : Env} {G : Gh} {N : Nat} {m : List (Nat × AV)} {ob : Obs} {lv : Lvs} {nx : Nat} {lp : Lps} {a : Act} {w : World} {gl : List (Nat × List AV)} (hg : GlobOk C gl) (hN : N ≤ gB) (h : Rel C E G (S N m ob lv nx lp) a w) : Rel C E G (S N (m ++ glM gl) ob lv nx lp) a w := by
  refine { h with tm := fun t x hx => ?_ }
  have hx : look (m ++ glM gl) t = some x := hx
  rw [look_append] at hx
  cases hm : look m t with
  | some y =>
    rw [hm] at hx
    cases hx
    exact h.tm t _ hm
  | none =>
    rw [hm] at hx
    obtain ⟨q, hq, rfl, rfl⟩ := look_glM gl t x hx
    have hgi : C.GI G.m w := C.st _ _ _ _ h.be h.m0 h.gi
    have hsz : a.tmps.size = N := h.N
    refine ⟨.pointer (some ⟨q.1, 0, none⟩), ?_, ?_⟩
    · unfold slot
      rw [Array.getElem?_eq_none (by omega)]
      dsimp only
      rw [if_pos (Nat.le_add_right _ _), Nat.add_sub_cancel_left]
    · have mo : Mo (gh1 G.m) w G w := ⟨fun _ _ _ a b => ⟨a, b⟩, fun i b e => by simp [gh1] at e, (fun t v e => by
        have e : tk1 t = some v := e
        unfold tk1 at e
        split at e
        · rename_i ht
          subst ht
          have := Option.some.inj e
          subst this
          exact h.t1
        · cases e), fun _ h => h, fun _ h => h⟩
      exact (hg G.m w hgi q hq).mono mo
/-- A function that looks at the package's variables. -/
theorem ACall.wpg {f : FuncId} {fn : Func} {c : Code} {args : List AV} {res : AV} {own : Option (Nat × TypeId)} (gl : List (Nat × List AV)) (hg : GlobOk C gl) (hf : C.P.funcs[f]? = some fn) (hname : (fn.name == "runtime.NumGoroutine") = false) (hb : fn.body = some c) (hn : decide (args.length ≤ fn.ntmps ∧ fn.ntmps ≤ 1099511627776) = true)
    (h : Lens (S fn.ntmps (argsM 0 args) [] [] 3 nolp) → wpC .on C none c (S fn.ntmps (argsM 0 args ++ glM gl) [] [] 3 nolp) (finC C fn res own)) : ACall C f args res own := by
  have hn' := of_decide_eq_true hn
  refine .wp hf hname hb (decide_eq_true hn'.1) ?_
  intro E G a w hr
  refine (wpC_ok (h hr.lens)).mono (fun e s' h' => ?_) E G a w (hr.glob hg hn'.2)
  cases e with
  | normal => exact ⟨.inr rfl, h'⟩
  | ret => exact ⟨.inl rfl, h'⟩
  | _ => exact h'.elim
theorem ACode.kill {r : Option Nat} {c : Code} {Q : Exit → AS → Prop} {s : AS} (id : Nat) {cs : List AV} (hs : s.ob[id]? = some cs) (hn : noMpo cs = true) (h : ACode C r c { s.kill id cs with tm := fun t => (s.tm t).map (kz id cs) } Q) : ACode C r c s Q := fun E G a w hr => by
  obtain ⟨G', h1, mo, hz⟩ := hr.kill hs hn
  refine h E G' a w { h1 with tm := fun t x hx => ?_ }
  have hx : (s.tm t).map (kz id cs) = some x := hx
  obtain ⟨y, hy, rfl⟩ := Option.map_eq_some_iff.1 hx
  obtain ⟨v, e1, e2⟩ := hr.tm t y hy
  exact ⟨v, e1, hz y v e2⟩
theorem look_map (f : AV → AV) : ∀ (m : List (Nat × AV)) (t : Nat), (look m t).map f = look (m.map fun q => (q.1, f q.2)) t
  | [], t => rfl
  | (u, x) :: m, t => by
    show (if u = t then some x else look m t).map f = (if u = t then some (f x) else look (m.map fun q => (q.1, f q.2)) t)
    by_cases e : u = t
    · simp [e]
    · simp only [if_neg e]; exact look_map f m t
/-- From here on nobody writes to the variable. -/
theorem wpC_kill {r : Option Nat} {c : Code} {Q : Ph → Exit → AS → Prop} {N : Nat} {m : List (Nat × AV)} {ob : Obs} {lv : Lvs} {nx : Nat} {lp : Lps} (id : Nat) {cs : List AV} (hs : ob[id]? = some cs) (hn : noMpo cs = true)
    (h : wpC .on C r c (S N (m.map fun q => (q.1, kz id cs q.2)) ((ob.set id []).map (·.map (kz id cs))) lv nx lp) Q) : ACode C r c (S N m ob lv nx lp) (Q .on) := by
  refine ACode.kill (s := S N m ob lv nx lp) id hs hn ?_
  have e : ({ (S N m ob lv nx lp).kill id cs with tm := fun t => ((S N m ob lv nx lp).tm t).map (kz id cs) } : AS) = S N (m.map fun q => (q.1, kz id cs q.2)) ((ob.set id []).map (·.map (kz id cs))) lv nx lp := by
    rw [S_kill]
    show AS.mk _ _ _ _ _ _ = AS.mk _ _ _ _ _ _
    congr 1
    funext t
    exact look_map _ m t
  rw [e]
  exact wpC_ok h
end
end Go.Proofs.AL
