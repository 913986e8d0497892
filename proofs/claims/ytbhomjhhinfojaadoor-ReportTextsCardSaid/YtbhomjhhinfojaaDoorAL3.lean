/- What Go functions compute, without memory: an evaluator of the program's own operations, and that it is sound (part 3). -/
import Derived.Test.YtbhomjhhinfojaaDoorAL2
namespace Go.Proofs.AL
open Go Go.RowKit
set_option linter.unusedSimpArgs false
set_option linter.unusedVariables false

/-! ## Operations in either order -/
section
variable {P : Program} {s u : AS}
theorem evalL_congr : ∀ (l : List Operand), (∀ x ∈ l, evalO u x = evalO s x) → evalL u l = evalL s l
  | [], _ => rfl
  | x :: l, h => by
    unfold evalL
    rw [h x (List.mem_cons_self), evalL_congr l (fun y hy => h y (List.mem_cons_of_mem _ hy))]
theorem evalP_congr : ∀ (l : List (Nat × Operand)), (∀ x ∈ l.map (·.2), evalO u x = evalO s x) → evalP u l = evalP s l
  | [], _ => rfl
  | (i, x) :: l, h => by
    unfold evalP
    rw [h x (by simp), evalP_congr l (fun y hy => h y (by simp only [List.map_cons]; exact List.mem_cons_of_mem _ hy))]
theorem evalH_congr (o : Option Operand) (h : ∀ x, o = some x → evalO u x = evalO s x) : evalH u o = evalH s o := by
  cases o with
  | none => rfl
  | some x => show some (evalO u x) = some (evalO s x); rw [h x rfl]
theorem evP_congr (op : Op) (h : ∀ x ∈ op.operands, evalO u x = evalO s x) : evP P u op = evP P s op := by
  cases op with
  | move x => exact h x (by simp [Op.operands])
  | assign x => exact h x (by simp [Op.operands])
  | pick c x y => simp only [evP, h c (by simp [Op.operands]), h x (by simp [Op.operands]), h y (by simp [Op.operands])]
  | binOp op t x y z => simp only [evP, h x (by simp [Op.operands]), h y (by simp [Op.operands])]
  | unOp op t x => simp only [evP, h x (by simp [Op.operands])]
  | extract x i => simp only [evP, h x (by simp [Op.operands])]
  | build t ps => simp only [evP, evalP_congr ps.toList (fun x hx => h x (by simpa [Op.operands] using hx))]
  | field t x i => simp only [evP, h x (by simp [Op.operands])]
  | fieldAddr t x i => simp only [evP, h x (by simp [Op.operands])]
  | indexAddr t x i => simp only [evP, h x (by simp [Op.operands]), h i (by simp [Op.operands])]
  | index t x i => simp only [evP, h x (by simp [Op.operands]), h i (by simp [Op.operands])]
  | slice t x lo hi mx =>
    cases mx with
    | some q3 => simp only [evP, h x (by simp [Op.operands]), evalH_congr lo (fun y hy => h y (by subst hy; simp [Op.operands])), evalH_congr hi (fun y hy => h y (by subst hy; simp [Op.operands])), evalH_congr (some q3) (fun y hy => h y (by cases hy; simp [Op.operands]))]
    | none => simp only [evP, h x (by simp [Op.operands]), evalH_congr lo (fun y hy => h y (by subst hy; simp [Op.operands])), evalH_congr hi (fun y hy => h y (by subst hy; simp [Op.operands]))]
  | convert a b x => simp only [evP, h x (by simp [Op.operands])]
  | makeInterface t x => simp only [evP, h x (by simp [Op.operands])]
  | nilCheck x => simp only [evP, h x (by simp [Op.operands])]
  | makeFunc f fs cs =>
    cases f with
    | func g => simp only [evP, evalL_congr fs.toList (fun x hx => h x (by simp [Op.operands]; exact .inl (by simpa using hx))), evalL_congr cs.toList (fun x hx => h x (by simp [Op.operands]; exact .inr (by simpa using hx)))]
    | _ => rfl
  | call c =>
    have hl : evalL u c.args.toList = evalL s c.args.toList := evalL_congr _ (fun x hx => h x (by simp [Op.operands, Call.operands]; right; simpa using hx))
    obtain ⟨callee, args, ts⟩ := c
    cases callee with
    | builtin b => cases b <;> first | rfl | (simp only [evP]; rw [hl])
    | _ => rfl
  | _ => rfl

inductive Cls where
  | comp | ld (id : Nat) | st (id : Nat) | new (id : Nat) | tok
def cls : Lab → Cls
  | .eff (.val _) => .comp
  | .eff (.ld id _) => .ld id
  | .eff (.st id _ _) => .st id
  | .eff (.new i _) => .new i
  | .eff (.newm i) => .new i
  | .eff (.row _ _) => .comp
  | .eff (.app _ _ _) => .tok
  | .eff (.ldr _) => .tok
  | .eff (.str _ _ _) => .tok
  | .eff (.appr _ _ _) => .tok
  | .skip => .comp
  | .call true => .tok
  | .call false => .comp
def clash : Cls → Cls → Bool
  | .ld i, .st j => i == j
  | .st i, .ld j => i == j
  | .st i, .st j => i == j
  | .new i, .ld j => i == j
  | .ld i, .new j => i == j
  | .new i, .st j => i == j
  | .st i, .new j => i == j
  | .new _, .new _ => true
  | .tok, .tok => true
  | _, _ => false
/-- As far as an operation of this label sees. -/
structure Agree (ops : Array Oper) (o : Oper) (l : Lab) (s u : AS) : Prop where
  N : u.N = s.N
  tm : ∀ t ∈ o.looksAt ops, u.tm t = s.tm t
  gl : ∀ t, s.N ≤ t → u.tm t = s.tm t
  mem : ∀ id, (cls l = .ld id ∨ cls l = .st id) → u.ob[id]? = s.ob[id]?
  len : ∀ i, cls l = .new i → u.ob.length = s.ob.length
  tok : cls l = .tok → u.live = s.live ∧ u.next = s.next
theorem Agree.op {ops : Array Oper} {o : Oper} {l : Lab} (h : Agree ops o l s u) : ∀ x ∈ o.op.operands, evalO u x = evalO s x := by
  intro x hx
  cases x with
  | tmp t =>
    have := h.tm t (List.mem_append_left _ (List.mem_filterMap.2 ⟨.tmp t, by simpa using hx, rfl⟩))
    simp only [evalO, this]
  | global k =>
    simp only [evalO, h.N]
    split
    · rename_i hk; exact h.gl _ hk
    · rfl
  | _ => rfl
theorem Agree.guard {ops : Array Oper} {o : Oper} {l : Lab} (h : Agree ops o l s u) : guardOf ops u o = guardOf ops s o := by
  unfold guardOf
  cases ho : o.guard with
  | none => rfl
  | some q =>
    obtain ⟨j, want⟩ := q
    dsimp only
    cases hj : (ops[j]?).bind (·.dst) with
    | none => rfl
    | some t =>
      dsimp only
      rw [h.tm t (List.mem_append_right _ (by rw [ho]; simp [hj]))]
theorem newE_congr {n k : Nat} {z : AV} {e : Eff} (h : newE n z = some e) (hl : ∀ i, cls (.eff e) = .new i → k = n) : newE k z = some e := by
  unfold newE at h ⊢
  split at h
  · cases h
  · rename_i hz
    cases h
    rw [if_neg hz, hl n rfl]
theorem newA_congr {P : Program} {t : TypeId} {n k : Nat} {z : AV} {e : Eff} (h : newA P t n z = some e) (hl : ∀ i, cls (.eff e) = .new i → k = n) : newA P t k z = some e := by
  unfold newA at h ⊢
  split at h
  · cases h
  · rename_i hz
    cases h
    rw [if_neg hz, hl n rfl]
theorem mputA_congr {t : TypeId} {k x p : AV} {e : Eff} (he : mputA P s t k x p = some e) (hm : ∀ id, (cls (.eff e) = .ld id ∨ cls (.eff e) = .st id) → u.ob[id]? = s.ob[id]?) : mputA P u t k x p = some e := by
  have B := @Option.bind_eq_some_iff
  unfold mputA at he ⊢
  split at he
  case h_2 => cases he
  rename_i id
  obtain ⟨cs, hcs, he⟩ := B.1 he
  have he' := he
  unfold mputE at he'
  obtain ⟨_, _, he'⟩ := B.1 he'
  obtain ⟨_, _, he'⟩ := B.1 he'
  obtain ⟨_, _, rfl⟩ := Option.map_eq_some_iff.1 he'
  show ((u.ob[id]?).bind fun cs => mputE P t id cs k x) = _
  rw [hm id (.inr rfl), hcs]
  exact he
theorem mgetA_congr {t : TypeId} {k p : AV} {ok : Bool} {e : Eff} (he : mgetA P s t k ok p = some e) (hm : ∀ id, (cls (.eff e) = .ld id ∨ cls (.eff e) = .st id) → u.ob[id]? = s.ob[id]?) : mgetA P u t k ok p = some e := by
  have B := @Option.bind_eq_some_iff
  unfold mgetA at he ⊢
  split at he
  · rename_i id
    obtain ⟨cs, hcs, he⟩ := B.1 he
    have he' := he
    unfold mgetE at he'
    obtain ⟨_, _, he'⟩ := B.1 he'
    obtain ⟨_, _, he'⟩ := B.1 he'
    obtain ⟨_, _, rfl⟩ := Option.map_eq_some_iff.1 he'
    show ((u.ob[id]?).bind fun cs => mgetE P t id cs k ok) = _
    rw [hm id (.inl rfl), hcs]
    exact he
  · exact he
  · cases he
theorem lenE_congr {t : TypeId} {p : AV} {e : Eff} (he : lenE P s t p = some e) (hm : ∀ id, (cls (.eff e) = .ld id ∨ cls (.eff e) = .st id) → u.ob[id]? = s.ob[id]?) : lenE P u t p = some e := by
  have B := @Option.bind_eq_some_iff
  unfold lenE at he ⊢
  split at he
  · rename_i id
    obtain ⟨cs, hcs, he⟩ := B.1 he
    have he' := he
    unfold mlenE at he'
    obtain ⟨_, _, he'⟩ := B.1 he'
    obtain ⟨_, _, rfl⟩ := Option.map_eq_some_iff.1 he'
    show ((u.ob[id]?).bind fun cs => mlenE P t id cs) = _
    rw [hm id (.inl rfl), hcs]
    exact he
  · exact he
theorem appA_cls {t t' : TypeId} {x y : AV} {e : Eff} (he : appA P s t t' x y = some e) : cls (.eff e) = .tok := by
  have B := @Option.bind_eq_some_iff
  unfold appA at he
  split at he
  · unfold appR at he
    split at he
    case h_2 => cases he
    obtain ⟨_, _, he⟩ := B.1 he
    obtain ⟨_, _, he⟩ := B.1 he
    obtain ⟨_, _, he⟩ := B.1 he
    split at he
    · cases he; rfl
    · split at he <;> cases he
      rfl
  · unfold appE at he
    split at he
    case h_3 => cases he
    case h_2 =>
      obtain ⟨_, _, he⟩ := B.1 he
      obtain ⟨_, _, he⟩ := B.1 he
      split at he <;> cases he
      rfl
    obtain ⟨_, _, he⟩ := B.1 he
    obtain ⟨_, _, he⟩ := B.1 he
    obtain ⟨_, _, he⟩ := B.1 he
    split at he
    · cases he; rfl
    · split at he <;> cases he
      rfl
theorem appA_congr {t t' : TypeId} {x y : AV} (hl : u.live = s.live) : appA P u t t' x y = appA P s t t' x y := by
  have h1 : rowArg P u t x = rowArg P s t x := by unfold rowArg; rw [hl]
  have h2 : appE P u t t' x y = appE P s t t' x y := by unfold appE; rw [hl]
  unfold appA
  rw [h1, h2]
theorem ev_congr {ops : Array Oper} {o : Oper} {e : Eff} (h : Agree ops o (.eff e) s u) (he : ev P s o.op = some e) : ev P u o.op = some e := by
  have hop := h.op
  have B := @Option.bind_eq_some_iff
  have base : ∀ op, o.op = op → evP P u op = evP P s op := fun op hop' => evP_congr op (by rw [← hop']; exact hop)
  generalize hopp : o.op = op at he ⊢
  rw [hopp] at hop
  have base := base op hopp
  cases op with
  | load t y =>
    have hy := hop y (by simp [Op.operands])
    obtain ⟨p, hp, he⟩ := B.1 he
    simp only [ev, hy, hp, Option.bind_some]
    cases p with
    | ptr id off =>
      obtain ⟨cs, hcs, he⟩ := B.1 he
      obtain ⟨x, hx, rfl⟩ := Option.map_eq_some_iff.1 he
      show ((u.ob[id]?).bind fun cs => (readAt P t off cs).map (Eff.ld id)) = _
      rw [h.mem id (.inl rfl)]
      simp only [hcs, Option.bind_some, hx, Option.map_some]
    | cptr cs => exact he
    | eptr k j off sz =>
      have he : ldrE P t (s.live k) j off sz = some e := he
      have hcl : cls (.eff e) = .tok := by
        have he' := he
        unfold ldrE at he'
        obtain ⟨_, _, he'⟩ := B.1 he'
        obtain ⟨_, _, he'⟩ := B.1 he'
        split at he'
        case isFalse => cases he'
        obtain ⟨_, _, rfl⟩ := Option.map_eq_some_iff.1 he'
        rfl
      show ldrE P t (u.live k) j off sz = some e
      rw [(h.tok hcl).1]; exact he
    | _ => cases he
  | store t y x =>
    have hy := hop y (by simp [Op.operands])
    have hx := hop x (by simp [Op.operands])
    obtain ⟨p, hp, he⟩ := B.1 he
    obtain ⟨z, hz, he⟩ := B.1 he
    simp only [ev, hy, hp, hx, hz, Option.bind_some]
    cases p with
    | ptr id off =>
      obtain ⟨cs, hcs, he⟩ := B.1 he
      have he' := he
      unfold stE at he'
      split at he'
      case isFalse => cases he'
      cases he'
      show ((u.ob[id]?).bind fun cs => stE P t cs id off z) = _
      rw [h.mem id (.inr rfl)]
      simp only [hcs, Option.bind_some]
      exact he
    | eptr k j off sz =>
      have he : strE P t (s.live k) k j off sz z = some e := he
      have hcl : cls (.eff e) = .tok := by
        have he' := he
        unfold strE at he'
        obtain ⟨_, _, he'⟩ := B.1 he'
        obtain ⟨_, _, he'⟩ := B.1 he'
        split at he' <;> cases he'
        rfl
      show strE P t (u.live k) k j off sz z = some e
      rw [(h.tok hcl).1]; exact he
    | _ => cases he
  | makeSlice t l c =>
    obtain ⟨lv, hlv, he⟩ := B.1 he
    obtain ⟨cv, hcv, he⟩ := B.1 he
    show ((evalO u l).bind fun lv => (evalO u c).bind fun cv => mkE P t lv cv) = some e
    rw [hop l (by simp [Op.operands]), hop c (by simp [Op.operands]), hlv, hcv]
    exact he
  | alloc t =>
    obtain ⟨z, hz, he⟩ := B.1 he
    show ((zeroT P t).bind (newA P t u.ob.length)) = _
    rw [hz]
    exact newA_congr he (fun i hi => h.len i hi)
  | box t y =>
    have hy := hop y (by simp [Op.operands])
    obtain ⟨z, hz, he⟩ := B.1 he
    show ((evalO u y).bind (newE u.ob.length)) = _
    rw [hy, hz]
    exact newE_congr he (fun i hi => h.len i hi)
  | buildSlice t n ps =>
    simp only [ev, evalP_congr ps.toList (fun x hx => hop x (by simpa [Op.operands] using hx))]; exact he
  | call c =>
    have hl : evalL u c.args.toList = evalL s c.args.toList := evalL_congr _ (fun x hx => hop x (by simp [Op.operands, Call.operands]; right; simpa using hx))
    obtain ⟨callee, args, ts⟩ := c
    cases callee with
    | builtin b =>
      cases b with
      | append =>
        simp only [ev] at he ⊢
        dsimp only at hl
        rw [hl]
        split at he
        case h_2 => cases he
        rename_i x y t t' e1 e2
        show appA P u t t' x y = _
        rw [appA_congr (h.tok (appA_cls he)).1]
        exact he
      | len =>
        simp only [ev] at he ⊢
        dsimp only at hl
        rw [hl]
        split at he
        case h_2 => cases he
        exact lenE_congr he h.mem
      | _ => simp only [ev, base] at he ⊢; exact he
    | _ => simp only [ev, base] at he ⊢; exact he
  | makeMap t r =>
    obtain ⟨q, hq, he⟩ := B.1 he
    obtain ⟨z, hz, rfl⟩ := Option.map_eq_some_iff.1 he
    have hr : resv u r = resv s r := by
      cases r with
      | none => rfl
      | some o => show (evalO u o).bind asIntU = (evalO s o).bind asIntU; rw [hop o (by simp [Op.operands])]
    show ((mapT P t).bind fun _ => (resv u r).map fun _ => Eff.newm u.ob.length) = _
    rw [hq, hr, Option.bind_some, hz, h.len _ rfl]
    rfl
  | insert t m k x =>
    obtain ⟨p, hp, he⟩ := B.1 he
    obtain ⟨kv, hk, he⟩ := B.1 he
    obtain ⟨xv, hx, he⟩ := B.1 he
    show ((evalO u m).bind fun p => (evalO u k).bind fun kv => (evalO u x).bind fun xv => mputA P u t kv xv p) = _
    rw [hop m (by simp [Op.operands]), hop k (by simp [Op.operands]), hop x (by simp [Op.operands]), hp, hk, hx]
    exact mputA_congr he h.mem
  | mapUpdate t m k x =>
    obtain ⟨p, hp, he⟩ := B.1 he
    obtain ⟨kv, hk, he⟩ := B.1 he
    obtain ⟨xv, hx, he⟩ := B.1 he
    show ((evalO u m).bind fun p => (evalO u k).bind fun kv => (evalO u x).bind fun xv => mputA P u t kv xv p) = _
    rw [hop m (by simp [Op.operands]), hop k (by simp [Op.operands]), hop x (by simp [Op.operands]), hp, hk, hx]
    exact mputA_congr he h.mem
  | lookup t m k ok =>
    obtain ⟨p, hp, he⟩ := B.1 he
    obtain ⟨kv, hk, he⟩ := B.1 he
    show ((evalO u m).bind fun p => (evalO u k).bind fun kv => mgetA P u t kv ok p) = _
    rw [hop m (by simp [Op.operands]), hop k (by simp [Op.operands]), hp, hk]
    exact mgetA_congr he h.mem
  | _ => simp only [ev, base] at he ⊢; exact he

/-- What an operation does to a state. -/
structure Tr where
  x : Option AV
  ob : List (List AV) → List (List AV)
  live : (Nat → Option Tk) → (Nat → Option Tk)
  nx : Nat → Nat
def updO (f : Nat → Option AV) (d : Option Nat) (x : Option AV) : Nat → Option AV :=
  match d with
  | some d => fun t => if t = d then x else f t
  | none => f
def Tr.app (T : Tr) (d : Option Nat) (s : AS) : AS := { N := s.N, tm := updO s.tm d T.x, ob := T.ob s.ob, live := T.live s.live, next := T.nx s.next, lp := s.lp }
theorem put_eq (s : AS) (d : Option Nat) (x : AV) : s.put d x = { s with tm := updO s.tm d (some x) } := by cases d <;> rfl
theorem del_eq (s : AS) (d : Option Nat) : s.del d = { s with tm := updO s.tm d none } := by cases d <;> rfl

/-- What a label says of a step. -/
structure Tr.Fits (T : Tr) (l : Lab) : Prop where
  ob : (∀ id, cls l ≠ .st id) → (∀ id, cls l ≠ .new id) → T.ob = id
  new : ∀ i, cls l = .new i → ∃ cs, T.ob = fun l => l ++ [cs]
  st : ∀ id, cls l = .st id → ∃ f : List AV → List AV, T.ob = fun l => match l[id]? with | some c => l.set id (f c) | none => l
  tok : cls l ≠ .tok → T.live = id ∧ T.nx = id

theorem Stp.shape {C : Cx} {ops : Array Oper} {o : Oper} {l : Lab} {s' : AS} (h : Stp C ops o l s s') : ∃ T : Tr, T.Fits l ∧ s' = T.app o.dst s ∧ ∀ u, Agree ops o l s u → Stp C ops o l u (T.app o.dst u) := by
  have dst_ : ∀ u, u.N = s.N → dstOk u o = dstOk s o := fun u hu => by unfold dstOk; rw [hu]
  cases h with
  | eff hg hd he =>
    rename_i e
    have mk : ∀ (T : Tr), T.Fits (.eff e) → (∀ u, Agree ops o (.eff e) s u → apEff u o.dst e = T.app o.dst u) → ∃ T : Tr, T.Fits (.eff e) ∧ apEff s o.dst e = T.app o.dst s ∧ ∀ u, Agree ops o (.eff e) s u → Stp C ops o (.eff e) u (T.app o.dst u) := by
      intro T hT hap
      refine ⟨T, hT, hap s ⟨rfl, fun _ _ => rfl, fun _ _ => rfl, fun _ _ => rfl, fun _ _ => rfl, fun _ => ⟨rfl, rfl⟩⟩, fun u hu => ?_⟩
      rw [← hap u hu]
      exact .eff (hu.guard.trans hg) ((dst_ u hu.N).trans hd) (ev_congr hu he)
    cases e with
    | val x => exact mk ⟨some x, id, id, id⟩ ⟨fun _ _ => rfl, fun _ h => (by cases h), fun _ h => (by cases h), fun _ => ⟨rfl, rfl⟩⟩ (fun u _ => put_eq u _ _)
    | ld id x => exact mk ⟨some x, _root_.id, _root_.id, _root_.id⟩ ⟨fun _ _ => rfl, fun _ h => (by cases h), fun _ h => (by cases h), fun _ => ⟨rfl, rfl⟩⟩ (fun u _ => put_eq u _ _)
    | st id off cs => exact mk ⟨none, fun l => match l[id]? with | some c => l.set id (splice off cs c) | none => l, _root_.id, _root_.id⟩ ⟨fun h _ => absurd rfl (h id), fun _ h => (by cases h), fun _ h => (by cases h; exact ⟨_, rfl⟩), fun _ => ⟨rfl, rfl⟩⟩ (fun u _ => del_eq _ _)
    | new i cs => exact mk ⟨some (.ptr s.ob.length 0), fun l => l ++ [cs], id, id⟩ ⟨fun _ h => absurd rfl (h i), fun _ h => (by cases h; exact ⟨_, rfl⟩), fun _ h => (by cases h), fun _ => ⟨rfl, rfl⟩⟩ (fun u hu => by
        show ({ u with ob := u.ob ++ [cs] } : AS).put o.dst (.ptr u.ob.length 0) = _
        rw [put_eq, hu.len i rfl]; rfl)
    | newm i => exact mk ⟨some (.mp s.ob.length), fun l => l ++ [[.mpo [] []]], id, id⟩ ⟨fun _ h => absurd rfl (h i), fun _ h => (by cases h; exact ⟨_, rfl⟩), fun _ h => (by cases h), fun _ => ⟨rfl, rfl⟩⟩ (fun u hu => by
        show ({ u with ob := u.ob ++ [[.mpo [] []]] } : AS).put o.dst (.mp u.ob.length) = _
        rw [put_eq, hu.len i rfl]; rfl)
    | row e xs => exact mk ⟨some (.sl 2 xs), _root_.id, _root_.id, _root_.id⟩ ⟨fun _ _ => rfl, fun _ h => (by cases h), fun _ h => (by cases h), fun _ => ⟨rfl, rfl⟩⟩ (fun u _ => put_eq u _ _)
    | app t e xs => exact mk ⟨some (.sl s.next xs), id, fun f u => if u = s.next then some (.ty e) else if u = t then none else f u, fun n => n + 1⟩ ⟨fun _ _ => rfl, fun _ h => (by cases h), fun _ h => (by cases h), fun h => absurd rfl h⟩ (fun u hu => by
        show ((u.drop t).tok e).put o.dst (.sl u.next xs) = _
        rw [put_eq]; unfold AS.tok AS.drop Tr.app
        rw [(hu.tok rfl).2]; rfl)
    | ldr x => exact mk ⟨some x, id, id, id⟩ ⟨fun _ _ => rfl, fun _ h => (by cases h), fun _ h => (by cases h), fun h => absurd rfl h⟩ (fun u _ => put_eq u _ _)
    | str t e xs => exact mk ⟨none, id, fun f u => if u = t then some (.row e xs) else f u, id⟩ ⟨fun _ _ => rfl, fun _ h => (by cases h), fun _ h => (by cases h), fun h => absurd rfl h⟩ (fun u _ => del_eq _ _)
    | appr t e xs => exact mk ⟨some (.own s.next xs.length), id, fun f u => if u = s.next then some (.row e xs) else if u = t then none else f u, fun n => n + 1⟩ ⟨fun _ _ => rfl, fun _ h => (by cases h), fun _ h => (by cases h), fun h => absurd rfl h⟩ (fun u hu => by
        show ((u.drop t).tokR e xs).put o.dst (.own u.next xs.length) = _
        rw [put_eq]; unfold AS.tokR AS.drop Tr.app
        rw [(hu.tok rfl).2]; rfl)
  | skip hg hd =>
    exact ⟨⟨some (.tup []), id, id, id⟩, ⟨fun _ _ => rfl, fun _ h => (by cases h), fun _ h => (by cases h), fun _ => ⟨rfl, rfl⟩⟩, put_eq _ _ _, fun u hu => by
      have := Stp.skip (C := C) (ops := ops) (o := o) (s := u) (hu.guard.trans hg) ((dst_ u hu.N).trans hd)
      rw [put_eq] at this; exact this⟩
  | call hg hd ho hfo hev hargs hp hc =>
    rename_i c fo g xs res own
    have hfo' : ∀ u, Agree ops o (.call own.isSome) s u → evalO u fo = evalO s fo := fun u hu => hu.op fo (by rw [ho]; simp [Op.operands, Call.operands, hfo])
    have hargs' : ∀ u, Agree ops o (.call own.isSome) s u → evalL u c.args.toList = evalL s c.args.toList := fun u hu => evalL_congr _ (fun x hx => hu.op x (by rw [ho]; simp [Op.operands, Call.operands]; right; simpa using hx))
    have again : ∀ u, Agree ops o (.call own.isSome) s u → Stp C ops o (.call own.isSome) u (callSt u o.dst res own) := fun u hu =>
      .call (hu.guard.trans hg) ((dst_ u hu.N).trans hd) ho hfo ((hfo' u hu).trans hev) ((hargs' u hu).trans hargs) hp hc
    cases own with
    | none => exact ⟨⟨some res, id, id, id⟩, ⟨fun _ _ => rfl, fun _ h => (by cases h), fun _ h => (by cases h), fun _ => ⟨rfl, rfl⟩⟩, put_eq _ _ _, fun u hu => by
        have := again u hu
        rw [show callSt u o.dst res none = u.put o.dst res from rfl, put_eq] at this; exact this⟩
    | some q =>
      obtain ⟨i, e⟩ := q
      have eq : ∀ u, u.next = s.next → callSt u o.dst res (some (i, e)) = (⟨some (withTok i s.next res), id, fun f t => if t = s.next then some (.ty e) else f t, fun n => n + 1⟩ : Tr).app o.dst u := fun u hu => by
        show (u.tok e).put o.dst (withTok i u.next res) = _
        rw [put_eq]; unfold AS.tok Tr.app
        rw [hu]; rfl
      exact ⟨_, ⟨fun _ _ => rfl, fun _ h => (by cases h), fun _ h => (by cases h), fun h => absurd rfl h⟩, eq s rfl, fun u hu => by
        have := again u hu
        rw [eq u (hu.tok rfl).2] at this; exact this⟩
end
end Go.Proofs.AL
namespace Go.Proofs.AL
open Go Go.RowKit
set_option linter.unusedSimpArgs false
set_option linter.unusedVariables false

section
variable {C : Cx} {ops : Array Oper}
theorem updO_comm (f : Nat → Option AV) {d1 d2 : Option Nat} (x1 x2 : Option AV) (h : ∀ d, d1 = some d → d2 ≠ some d) : updO (updO f d1 x1) d2 x2 = updO (updO f d2 x2) d1 x1 := by
  cases d1 with
  | none => rfl
  | some a =>
    cases d2 with
    | none => rfl
    | some b =>
      have hne : a ≠ b := fun e => h a rfl (by rw [e])
      funext t
      unfold updO
      by_cases h1 : t = b
      · subst h1
        simp only [if_true]
        rw [if_neg (fun e => hne e.symm)]
      · simp only [h1, if_false]
theorem updO_ne (f : Nat → Option AV) {d : Option Nat} (x : Option AV) {t : Nat} (h : d ≠ some t) : updO f d x t = f t := by
  cases d with
  | none => rfl
  | some d => exact if_neg (fun e => h (by rw [e]))
theorem clash_symm (x y : Cls) : clash x y = clash y x := by
  cases x <;> cases y <;> simp [clash, eq_comm, Bool.beq_comm]
/-- What the one does, the other does not see. -/
theorem Tr.agree {T : Tr} {o o' : Oper} {l l' : Lab} {s : AS} (hT : T.Fits l) (hi : ∀ i, cls l = .new i → s.ob.length = i) (hc : clash (cls l) (cls l') = false) (hd : ∀ d, o.dst = some d → d ∉ o'.looksAt ops) (hN : ∀ d, o.dst = some d → d < s.N) : Agree ops o' l' s (T.app o.dst s) := by
  refine ⟨rfl, fun t ht => updO_ne _ _ (fun e => hd t e ht), fun t ht => updO_ne _ _ (fun e => absurd (hN t e) (Nat.not_lt.2 ht)), fun id hid => ?_, fun k hn => ?_, fun ht => ?_⟩
  · show (T.ob s.ob)[id]? = s.ob[id]?
    cases hl : cls l with
    | st j =>
      obtain ⟨f, hf⟩ := hT.st j hl
      have hne : j ≠ id := by
        rintro rfl
        rw [hl] at hc
        rcases hid with h1 | h1 <;> rw [h1] at hc <;> simp [clash] at hc
      rw [hf]
      dsimp only
      split
      · rw [List.getElem?_set_ne hne]
      · rfl
    | new i =>
      obtain ⟨cs, hf⟩ := hT.new i hl
      have hl' := hi i hl
      have hne : i ≠ id := by
        rw [hl] at hc
        rintro rfl
        rcases hid with h1 | h1 <;> rw [h1] at hc <;> simp [clash] at hc
      rw [hf]
      dsimp only
      rcases Nat.lt_or_ge id s.ob.length with h1 | h1
      · rw [List.getElem?_append_left h1]
      · rw [List.getElem?_eq_none h1, List.getElem?_eq_none (by simp; omega)]
    | _ => rw [hT.ob (fun i e => by rw [hl] at e; cases e) (fun i => by rw [hl]; intro e; cases e)]; rfl
  · show (T.ob s.ob).length = _
    rw [hn] at hc
    cases hl : cls l with
    | st j =>
      obtain ⟨f, hf⟩ := hT.st j hl
      rw [hf]
      dsimp only
      split <;> simp
    | new i => rw [hl] at hc; simp [clash] at hc
    | _ => rw [hT.ob (fun i e => by rw [hl] at e; cases e) (fun i => by rw [hl]; intro e; cases e)]; rfl
  · rw [ht] at hc
    have : cls l ≠ .tok := by intro e; rw [e] at hc; simp [clash] at hc
    obtain ⟨h1, h2⟩ := hT.tok this
    exact ⟨by show T.live s.live = _; rw [h1]; rfl, by show T.nx s.next = _; rw [h2]; rfl⟩
theorem Tr.agree' {T : Tr} {o o' : Oper} {l l' : Lab} {s : AS} (hT : T.Fits l) (hi : ∀ i, cls l = .new i → s.ob.length = i) (hc : clash (cls l) (cls l') = false) (hd : ∀ d, o.dst = some d → d ∉ o'.looksAt ops) (hN : ∀ d, o.dst = some d → d < s.N) : Agree ops o' l' (T.app o.dst s) s := by
  have h := Tr.agree (ops := ops) (s := s) hT hi hc hd hN
  exact ⟨h.N.symm, fun t ht => (h.tm t ht).symm, fun t ht => (h.gl t ht).symm, fun i hi => (h.mem i hi).symm, fun k hn => (h.len k hn).symm, fun ht => ⟨(h.tok ht).1.symm, (h.tok ht).2.symm⟩⟩
theorem ob_comm {T1 T2 : Tr} {l1 l2 : Lab} (h1 : T1.Fits l1) (h2 : T2.Fits l2) (hc : clash (cls l1) (cls l2) = false) (l : List (List AV)) (hi1 : ∀ i, cls l1 = .new i → l.length = i) (hi2 : ∀ i, cls l2 = .new i → l.length = i) : T1.ob (T2.ob l) = T2.ob (T1.ob l) := by
  by_cases e1 : (∀ i, cls l1 ≠ .st i) ∧ (∀ i, cls l1 ≠ .new i)
  · rw [h1.ob e1.1 e1.2]; rfl
  by_cases e2 : (∀ i, cls l2 ≠ .st i) ∧ (∀ i, cls l2 ≠ .new i)
  · rw [h2.ob e2.1 e2.2]; rfl
  have sn : ∀ (i j : Nat) (f : List AV → List AV) (cs : List AV), i ≠ j → l.length = j → (match (l ++ [cs])[i]? with | some c => (l ++ [cs]).set i (f c) | none => l ++ [cs]) = (match l[i]? with | some c => l.set i (f c) | none => l) ++ [cs] := by
    intro i j f cs hne hl
    rcases Nat.lt_or_ge i l.length with h | h
    · rw [List.getElem?_append_left h, List.getElem?_eq_getElem h]
      dsimp only
      rw [List.set_append_left _ _ h]
    · rw [List.getElem?_eq_none h, List.getElem?_eq_none (by simp; omega)]
  cases c1 : cls l1 with
  | st i =>
    cases c2 : cls l2 with
    | st j =>
      rw [c1, c2] at hc
      have hne : i ≠ j := by intro e; subst e; simp [clash] at hc
      obtain ⟨f, hf⟩ := h1.st i c1
      obtain ⟨g, hg⟩ := h2.st j c2
      rw [hf, hg]
      dsimp only
      cases a1 : l[i]? with
      | none =>
        cases a2 : l[j]? with
        | none => simp only [a1, a2]
        | some y => simp only [a1, a2, List.getElem?_set_ne (Ne.symm hne)]
      | some x =>
        cases a2 : l[j]? with
        | none => simp only [a1, a2, List.getElem?_set_ne hne]
        | some y => simp only [a1, a2, List.getElem?_set_ne hne, List.getElem?_set_ne (Ne.symm hne)]; exact List.set_comm _ _ (Ne.symm hne)
    | new j =>
      rw [c1, c2] at hc
      have hne : i ≠ j := by intro e; subst e; simp [clash] at hc
      obtain ⟨f, hf⟩ := h1.st i c1
      obtain ⟨cs, hg⟩ := h2.new j c2
      rw [hf, hg]
      exact sn i j f cs hne (hi2 j c2)
    | _ => exact absurd ⟨(fun i e => by rw [c2] at e; cases e), (fun i => by rw [c2]; intro e; cases e)⟩ e2
  | new i =>
    cases c2 : cls l2 with
    | st j =>
      rw [c1, c2] at hc
      have hne : j ≠ i := by intro e; subst e; simp [clash] at hc
      obtain ⟨f, hf⟩ := h2.st j c2
      obtain ⟨cs, hg⟩ := h1.new i c1
      rw [hf, hg]
      exact (sn j i f cs hne (hi1 i c1)).symm
    | new j => rw [c1, c2] at hc; simp [clash] at hc
    | _ => exact absurd ⟨(fun i e => by rw [c2] at e; cases e), (fun i => by rw [c2]; intro e; cases e)⟩ e2
  | _ => exact absurd ⟨(fun i e => by rw [c1] at e; cases e), (fun i => by rw [c1]; intro e; cases e)⟩ e1
theorem mputA_cls {P : Program} {s : AS} {t : TypeId} {k x p : AV} {e : Eff} (he : mputA P s t k x p = some e) : ∃ id, cls (.eff e) = .st id := by
  have B := @Option.bind_eq_some_iff
  unfold mputA at he
  split at he
  case h_2 => cases he
  obtain ⟨cs, hcs, he⟩ := B.1 he
  unfold mputE at he
  obtain ⟨_, _, he⟩ := B.1 he
  obtain ⟨_, _, he⟩ := B.1 he
  obtain ⟨_, _, rfl⟩ := Option.map_eq_some_iff.1 he
  exact ⟨_, rfl⟩
theorem mgetA_cls {P : Program} {s : AS} {t : TypeId} {k p : AV} {ok : Bool} {e : Eff} (he : mgetA P s t k ok p = some e) : (∃ id, cls (.eff e) = .ld id) ∨ cls (.eff e) = .comp := by
  have B := @Option.bind_eq_some_iff
  unfold mgetA at he
  split at he
  · obtain ⟨cs, hcs, he⟩ := B.1 he
    unfold mgetE at he
    obtain ⟨_, _, he⟩ := B.1 he
    obtain ⟨_, _, he⟩ := B.1 he
    obtain ⟨_, _, rfl⟩ := Option.map_eq_some_iff.1 he
    exact .inl ⟨_, rfl⟩
  · unfold mnilE at he
    obtain ⟨_, _, he⟩ := B.1 he
    split at he
    case isFalse => cases he
    obtain ⟨_, _, rfl⟩ := Option.map_eq_some_iff.1 he
    exact .inr rfl
  · cases he
theorem lenE_cls {P : Program} {s : AS} {t : TypeId} {p : AV} {e : Eff} (he : lenE P s t p = some e) : (∃ id, cls (.eff e) = .ld id) ∨ cls (.eff e) = .comp := by
  have B := @Option.bind_eq_some_iff
  unfold lenE at he
  split at he
  · obtain ⟨cs, hcs, he⟩ := B.1 he
    unfold mlenE at he
    obtain ⟨_, _, he⟩ := B.1 he
    obtain ⟨_, _, rfl⟩ := Option.map_eq_some_iff.1 he
    exact .inl ⟨_, rfl⟩
  · obtain ⟨_, _, rfl⟩ := Option.map_eq_some_iff.1 he
    exact .inr rfl
theorem ev_idx {P : Program} {s : AS} {op : Op} {e : Eff} (he : ev P s op = some e) {i : Nat} (hi : cls (.eff e) = .new i) : s.ob.length = i := by
  have B := @Option.bind_eq_some_iff
  have keyA : ∀ (t : TypeId) z, newA P t s.ob.length z = some e → s.ob.length = i := by
    intro t z hz
    unfold newA at hz
    split at hz
    · cases hz
    · cases hz; cases hi; rfl
  have key : ∀ z, newE s.ob.length z = some e → s.ob.length = i := by
    intro z hz
    unfold newE at hz
    split at hz
    · cases hz
    · cases hz; cases hi; rfl
  have pure_ : ∀ o : Option AV, o.map .val = some e → s.ob.length = i := by
    intro o ho
    obtain ⟨x, _, rfl⟩ := Option.map_eq_some_iff.1 ho
    cases hi
  have ldc : (∃ id, cls (.eff e) = .ld id) ∨ cls (.eff e) = .comp → s.ob.length = i := by
    rintro (⟨id, h⟩ | h) <;> rw [hi] at h <;> cases h
  cases op with
  | alloc t => obtain ⟨z, _, hz⟩ := B.1 he; exact keyA t z hz
  | box t y => obtain ⟨z, _, hz⟩ := B.1 he; exact key z hz
  | makeMap t r =>
    obtain ⟨_, _, he⟩ := B.1 he
    obtain ⟨_, _, rfl⟩ := Option.map_eq_some_iff.1 he
    cases hi; rfl
  | load t y =>
    obtain ⟨p, _, he⟩ := B.1 he
    cases p with
    | ptr id off => obtain ⟨cs', _, he⟩ := B.1 he; obtain ⟨x, _, rfl⟩ := Option.map_eq_some_iff.1 he; cases hi
    | cptr cs' => exact pure_ _ he
    | eptr k j off sz =>
      obtain ⟨_, _, he⟩ := B.1 he
      obtain ⟨_, _, he⟩ := B.1 he
      split at he
      case isFalse => cases he
      obtain ⟨x, _, rfl⟩ := Option.map_eq_some_iff.1 he
      cases hi
    | _ => cases he
  | store t y x =>
    obtain ⟨p, _, he⟩ := B.1 he
    obtain ⟨v, _, he⟩ := B.1 he
    cases p with
    | ptr id off =>
      obtain ⟨cs', _, he⟩ := B.1 he
      unfold stE at he
      split at he <;> cases he
      cases hi
    | eptr k j off sz =>
      obtain ⟨_, _, he⟩ := B.1 he
      obtain ⟨_, _, he⟩ := B.1 he
      split at he <;> cases he
      cases hi
    | _ => cases he
  | makeSlice t l c =>
    obtain ⟨lv, _, he⟩ := B.1 he
    obtain ⟨cv, _, he⟩ := B.1 he
    unfold mkE at he
    split at he
    case h_2 => cases he
    obtain ⟨_, _, he⟩ := B.1 he
    obtain ⟨_, _, he⟩ := B.1 he
    obtain ⟨_, _, he⟩ := B.1 he
    split at he <;> cases he
    cases hi
  | buildSlice t n ps =>
    obtain ⟨qs, _, he⟩ := B.1 he
    obtain ⟨e', _, he⟩ := B.1 he
    obtain ⟨q, _, he⟩ := B.1 he
    split at he <;> cases he
    cases hi
  | insert t m k x =>
    obtain ⟨_, _, he⟩ := B.1 he
    obtain ⟨_, _, he⟩ := B.1 he
    obtain ⟨_, _, he⟩ := B.1 he
    obtain ⟨id, h⟩ := mputA_cls he
    rw [hi] at h; cases h
  | mapUpdate t m k x =>
    obtain ⟨_, _, he⟩ := B.1 he
    obtain ⟨_, _, he⟩ := B.1 he
    obtain ⟨_, _, he⟩ := B.1 he
    obtain ⟨id, h⟩ := mputA_cls he
    rw [hi] at h; cases h
  | lookup t m k ok =>
    obtain ⟨_, _, he⟩ := B.1 he
    obtain ⟨_, _, he⟩ := B.1 he
    exact ldc (mgetA_cls he)
  | call c =>
    obtain ⟨callee, args, ts⟩ := c
    cases callee with
    | builtin b =>
      cases b with
      | append =>
        simp only [ev] at he
        split at he
        case h_2 => cases he
        have := appA_cls he
        rw [hi] at this; cases this
      | len =>
        simp only [ev] at he
        split at he
        case h_2 => cases he
        exact ldc (lenE_cls he)
      | _ => simp only [ev] at he; exact pure_ _ he
    | _ => simp only [ev] at he; exact pure_ _ he
  | _ => simp only [ev] at he; exact pure_ _ he
theorem Stp.idx {o : Oper} {l : Lab} {s s' : AS} (h : Stp C ops o l s s') : ∀ i, cls l = .new i → s.ob.length = i := by
  intro i hi
  cases h with
  | eff hg hd he => exact ev_idx he hi
  | skip => cases hi
  | call =>
    rename_i own _ _ _ _ _ _ _ _
    cases own <;> cases hi
theorem Stp.dst {o : Oper} {l : Lab} {s s' : AS} (h : Stp C ops o l s s') : ∀ d, o.dst = some d → d < s.N := by
  cases h with
  | eff _ hd _ => exact dstOk_spec hd
  | skip _ hd => exact dstOk_spec hd
  | call _ hd => exact dstOk_spec hd
theorem Stp.swap {o1 o2 : Oper} {l1 l2 : Lab} {s s1 s2 : AS} (h1 : Stp C ops o1 l1 s s1) (h2 : Stp C ops o2 l2 s1 s2) (ha : o1.apart ops o2 = true) (hc : clash (cls l1) (cls l2) = false) : ∃ t, Stp C ops o2 l2 s t ∧ Stp C ops o1 l1 t s2 := by
  obtain ⟨a1, a2, a3⟩ := Oper.apart_spec ha
  have i1 := h1.idx
  have n1 := h1.dst
  have n2 := h2.dst
  obtain ⟨T1, F1, rfl, S1⟩ := h1.shape
  have i2' := h2.idx
  obtain ⟨T2, F2, rfl, S2⟩ := h2.shape
  have ag := Tr.agree' (ops := ops) (o' := o2) (l' := l2) F1 i1 hc a1 n1
  have i2 : ∀ i, cls l2 = .new i → s.ob.length = i := fun i hi => (ag.len i hi).trans (i2' i hi)
  have g2 := S2 s ag
  have g1 := S1 (T2.app o2.dst s) (Tr.agree F2 i2 (by rw [clash_symm]; exact hc) a3 n2)
  refine ⟨_, g2, ?_⟩
  have : T1.app o1.dst (T2.app o2.dst s) = T2.app o2.dst (T1.app o1.dst s) := by
    unfold Tr.app
    congr 1
    · exact updO_comm _ _ _ (fun d e e' => a2 d e' e)
    · exact ob_comm F1 F2 hc _ i1 i2
    · dsimp only
      by_cases e1 : cls l1 = .tok
      · have e2 : cls l2 ≠ .tok := by intro e; rw [e1, e] at hc; simp [clash] at hc
        rw [(F2.tok e2).1]; rfl
      · rw [(F1.tok e1).1]; rfl
    · dsimp only
      by_cases e1 : cls l1 = .tok
      · have e2 : cls l2 ≠ .tok := by intro e; rw [e1, e] at hc; simp [clash] at hc
        rw [(F2.tok e2).2]; rfl
      · rw [(F1.tok e1).2]; rfl
  rw [← this]; exact g1
end

inductive Der (C : Cx) (ops : Array Oper) (labs : List Lab) : List Nat → AS → AS → Prop
  | nil (s : AS) : Der C ops labs [] s s
  | cons {i : Nat} {o : Oper} {l : Lab} {rest : List Nat} {s s1 s2 : AS} : ops[i]? = some o → labs[i]? = some l → Stp C ops o l s s1 → Der C ops labs rest s1 s2 → Der C ops labs (i :: rest) s s2
def indep (ops : Array Oper) (labs : List Lab) (i j : Nat) : Bool :=
  match ops[i]?, ops[j]?, labs[i]?, labs[j]? with
  | some o1, some o2, some l1, some l2 => o1.apart ops o2 && !clash (cls l1) (cls l2)
  | _, _, _, _ => false
def edgesBack (ops : Array Oper) : Bool := (List.range ops.size).all fun i => match ops[i]? with
  | some o => o.after.toList.all fun e => !Region.binds .any e || decide (e.on < i)
  | none => true
def reach (ops : Array Oper) : Nat → Nat → Nat → Bool
  | 0, _, _ => false
  | k + 1, i, p => match ops[i]? with
    | none => false
    | some o => o.after.toList.any fun e => Region.binds .any e && (e.on == p || reach ops k e.on p)
def psafe (ops : Array Oper) (labs : List Lab) : Bool :=
  edgesBack ops && (List.range ops.size).all fun j => (List.range j).all fun i => reach ops ops.size j i || indep ops labs i j

section
variable {C : Cx} {E : Env} {G : Gh} {s : AS} {a : Act} {w : World} {ops : Array Oper} {labs : List Lab}
theorem Der.pick {i : Nat} {post : List Nat} {s2 : AS} : ∀ (pre : List Nat) {s : AS}, Der C ops labs (pre ++ i :: post) s s2 → (∀ p ∈ pre, indep ops labs p i = true) → Der C ops labs (i :: (pre ++ post)) s s2
  | [], s, h, _ => h
  | p :: pre, s, h, hp => by
    cases h with
    | cons ho hl hs hr =>
      rename_i o l s1
      have := Der.pick pre hr (fun q hq => hp q (List.mem_cons_of_mem _ hq))
      cases this with
      | cons ho' hl' hs' hr' =>
        rename_i o' l' t
        have hi := hp p (List.mem_cons_self)
        unfold indep at hi
        rw [ho, ho', hl, hl'] at hi
        simp only [Bool.and_eq_true, Bool.not_eq_true'] at hi
        obtain ⟨u, g1, g2⟩ := hs.swap hs' hi.1 hi.2
        exact .cons ho' hl' g1 (.cons ho hl g2 hr')
theorem Der.seq {r : Option Nat} {n : Nat} {Q : Exit → Act → World → Prop} {s2 : AS} (hQ : ∀ G' a' w', Rel C E G' s2 a' w' → Q .normal a' w') : ∀ {L : List Nat} {s : AS} {G : Gh} {a : Act} {w : World}, Der C ops labs L s s2 → Rel C E G s a w → wpOpsIn (Fr r) n C.P ops Q L a w := by
  intro L
  induction L with
  | nil => intro s G a w h hr; cases h; exact hQ G a w hr
  | cons i rest ih =>
    intro s G a w h hr
    cases h with
    | cons ho hl hs hrest =>
      rw [wpOpsIn_cons]
      exact hs.ok hr ho (fun G' a' w' hr' => ih hrest hr')

def Listed (ops : Array Oper) (listed : Array Bool) : Prop := ∀ (q : Nat) (o : Oper), ops[q]? = some o → listed.getD q false = true → ∀ e ∈ o.after, Region.binds .any e = true → listed.getD e.on false = true
theorem reach_listed {listed : Array Bool} (hc : Listed ops listed) {p : Nat} : ∀ (k : Nat) {q : Nat}, (∀ o, ops[q]? = some o → ∀ e ∈ o.after, Region.binds .any e = true → listed.getD e.on false = true) → reach ops k q p = true → listed.getD p false = true
  | 0, q, _, h => by cases h
  | k + 1, q, hq, h => by
    unfold reach at h
    split at h
    · cases h
    rename_i o ho
    obtain ⟨e, he, h⟩ := List.any_eq_true.1 h
    simp only [Bool.and_eq_true, Bool.or_eq_true, beq_iff_eq] at h
    have hl := hq o ho e (by simpa using he) h.1
    rcases h.2 with h2 | h2
    · rw [← h2]; exact hl
    · exact reach_listed hc k (fun o' ho' e' he' hb' => hc e.on o' ho' hl e' he' hb') h2
theorem filter_ne_of_nodup {i : Nat} : ∀ {pre post : List Nat}, (pre ++ i :: post).Nodup → (pre ++ i :: post).filter (· != i) = pre ++ post := by
  intro pre post h
  rw [List.nodup_append] at h
  obtain ⟨h1, h2, h3⟩ := h
  rw [List.nodup_cons] at h2
  rw [List.filter_append, List.filter_cons]
  simp only [bne_self_eq_false, Bool.false_eq_true, if_false]
  congr 1
  · exact List.filter_eq_self.2 (fun x hx => by have := h3 x hx i (List.mem_cons_self); simpa using this)
  · exact List.filter_eq_self.2 (fun x hx => by
      have : x ≠ i := fun e => h2.1 (e ▸ hx)
      simpa using this)
theorem Der.any {r : Option Nat} {n : Nat} {Q : Exit → Act → World → Prop} {s2 : AS} (hs : psafe ops labs = true) (hQ : ∀ G' a' w', Rel C E G' s2 a' w' → Q .normal a' w') :
    ∀ (fuel : Nat) {listed : Array Bool} {s : AS} {G : Gh} {a : Act} {w : World}, listed.size = ops.size → Listed ops listed → ((List.range ops.size).filter fun i => !listed.getD i true).length ≤ fuel →
      Der C ops labs ((List.range ops.size).filter fun i => !listed.getD i true) s s2 → Rel C E G s a w → wpAnyIn (Fr r) n C.P .any ops Q fuel listed a w := by
  unfold psafe at hs
  simp only [Bool.and_eq_true] at hs
  obtain ⟨hback, hpair⟩ := hs
  have hback : ∀ (i : Nat) (o : Oper), ops[i]? = some o → ∀ e ∈ o.after, Region.binds .any e = true → e.on < i := by
    intro i o ho e he hb
    have hlt := (Array.getElem?_eq_some_iff.1 ho).1
    unfold edgesBack at hback
    have := List.all_eq_true.1 hback i (List.mem_range.2 hlt)
    rw [ho] at this
    have := List.all_eq_true.1 this e (by simpa using he)
    simp only [hb, Bool.not_true, Bool.false_or, decide_eq_true_eq] at this
    exact this
  have hpair : ∀ (i j : Nat), i < j → j < ops.size → reach ops ops.size j i = true ∨ indep ops labs i j = true := by
    intro i j hij hj
    have := List.all_eq_true.1 hpair j (List.mem_range.2 hj)
    have := List.all_eq_true.1 this i (List.mem_range.2 hij)
    simpa using this
  intro fuel
  induction fuel with
  | zero =>
    intro listed s G a w hsz hcl hlen hd hr
    have hnil := List.eq_nil_of_length_eq_zero (Nat.le_zero.1 hlen)
    rw [hnil] at hd
    cases hd
    refine ⟨?_, hQ G a w hr⟩
    rw [List.eq_nil_iff_forall_not_mem]
    intro i hi
    obtain ⟨h1, o, ho, _⟩ := mem_ready.1 hi
    have hlt := (Array.getElem?_eq_some_iff.1 ho).1
    have : i ∈ (List.range ops.size).filter fun i => !listed.getD i true := List.mem_filter.2 ⟨List.mem_range.2 hlt, by rw [h1]; rfl⟩
    rw [hnil] at this; cases this
  | succ fuel ih =>
    intro listed s G a w hsz hcl hlen hd hr
    refine ⟨fun hempty => ?_, fun i hi => ?_⟩
    · -- nothing can come up: nothing is left
      cases hL : (List.range ops.size).filter fun i => !listed.getD i true with
      | nil => rw [hL] at hd; cases hd; exact hQ G a w hr
      | cons i0 rest =>
        exfalso
        have hmem : i0 ∈ (List.range ops.size).filter fun i => !listed.getD i true := by rw [hL]; exact List.mem_cons_self
        obtain ⟨hm1, hm2⟩ := List.mem_filter.1 hmem
        have hlt := List.mem_range.1 hm1
        have hready : i0 ∈ Region.ready .any ops listed := by
          rw [mem_ready]
          refine ⟨by simpa using hm2, ops[i0], Array.getElem?_eq_getElem hlt, fun e he hb => ?_⟩
          have hlt2 := hback i0 _ (Array.getElem?_eq_getElem hlt) e he hb
          cases hg : listed.getD e.on false with
          | true => rfl
          | false =>
            exfalso
            have hin : e.on < listed.size := by omega
            have hg' : listed.getD e.on true = false := by
              rw [Array.getD_eq_getD_getElem?, Array.getElem?_eq_getElem hin] at hg ⊢
              exact hg
            have hmem2 : e.on ∈ (List.range ops.size).filter fun i => !listed.getD i true := List.mem_filter.2 ⟨List.mem_range.2 (by omega), by rw [hg']; rfl⟩
            have hsorted : ((List.range ops.size).filter fun i => !listed.getD i true).Pairwise (· < ·) := List.Pairwise.filter _ List.pairwise_lt_range
            rw [hL] at hmem2 hsorted
            rcases List.mem_cons.1 hmem2 with h1 | h1
            · omega
            · have := (List.pairwise_cons.1 hsorted).1 _ h1
              omega
        rw [hempty] at hready; cases hready
    · obtain ⟨h1, o, ho, hdeps⟩ := mem_ready.1 hi
      have hlt := (Array.getElem?_eq_some_iff.1 ho).1
      have hmem : i ∈ (List.range ops.size).filter fun i => !listed.getD i true := List.mem_filter.2 ⟨List.mem_range.2 hlt, by rw [h1]; rfl⟩
      have hnodup : ((List.range ops.size).filter fun i => !listed.getD i true).Nodup := List.Pairwise.filter _ List.nodup_range
      have hsorted : ((List.range ops.size).filter fun i => !listed.getD i true).Pairwise (· < ·) := List.Pairwise.filter _ List.pairwise_lt_range
      obtain ⟨pre, post, hL⟩ := List.append_of_mem hmem
      have hL' : ((List.range ops.size).filter fun j => !(listed.setIfInBounds i true).getD j true) = pre ++ post := by
        rw [← filter_ne_of_nodup (by rw [← hL]; exact hnodup), ← hL, List.filter_filter]
        apply List.filter_congr
        intro j _
        by_cases hj : j = i
        · subst hj
          have : (listed.setIfInBounds j true).getD j true = true := by
            have hin : j < listed.size := by omega
            simp [hin]
          rw [this]; simp
        · rw [getD_set_ne true (fun e => hj e.symm)]; simp [hj]
      rw [hL] at hd hlen hsorted
      have hpick := hd.pick pre (fun p hp => by
        have hpi : p < i := by
          rw [List.pairwise_append] at hsorted
          exact hsorted.2.2 p hp i (List.mem_cons_self)
        rcases hpair p i hpi hlt with h2 | h2
        · exfalso
          have hpl := reach_listed hcl _ (fun o' ho' e he hb => by rw [ho] at ho'; cases ho'; exact hdeps e he hb) h2
          have hpm : p ∈ (List.range ops.size).filter fun i => !listed.getD i true := by rw [hL]; exact List.mem_append_left _ hp
          have hpu := (List.mem_filter.1 hpm).2
          have hin : p < listed.size := by omega
          rw [Array.getD_eq_getD_getElem?, Array.getElem?_eq_getElem hin] at hpl
          rw [Array.getD_eq_getD_getElem?, Array.getElem?_eq_getElem hin] at hpu
          simp at hpl hpu
          rw [hpl] at hpu; cases hpu
        · exact h2)
      cases hpick with
      | cons ho' hl' hs' hr' =>
        rw [ho] at ho'; cases ho'
        refine hs'.ok hr ho (fun G' a' w' hrel => ?_)
        refine ih (by simpa using hsz) ?_ ?_ (by rw [hL']; exact hr') hrel
        · intro q oq hoq hq e he hb
          by_cases hqi : q = i
          · subst hqi
            rw [ho] at hoq; cases hoq
            exact getD_set_true (hdeps e he hb)
          · rw [getD_set_ne false (fun e => hqi e.symm)] at hq
            exact getD_set_true (hcl q oq hoq hq e he hb)
        · rw [hL']
          simp at hlen ⊢
          omega
end
end Go.Proofs.AL
namespace Go.Proofs.AL
open Go Go.RowKit
set_option linter.unusedSimpArgs false
set_option linter.unusedVariables false

/-! ## Code -/
def ACode (C : Cx) (r : Option Nat) (c : Code) (s : AS) (Q : Exit → AS → Prop) : Prop :=
  ∀ (E : Env) (G : Gh) (a : Act) (w : World), Rel C E G s a w → c.wpIn (Fr r) 0 C.P (fun e a' w' => ∃ s' G', Q e s' ∧ Rel C E G' s' a' w') a w
def thenA (K : AS → Prop) (Q : Exit → AS → Prop) : Exit → AS → Prop
  | .normal, s => K s
  | e, s => Q e s
def inBlockA (id : Nat) (Q : Exit → AS → Prop) : Exit → AS → Prop
  | .exit id', s => if id' = id then Q .normal s else Q (.exit id') s
  | e, s => Q e s
def ALoop (C : Cx) (r : Option Nat) (c : Code) : Nat → AS → (Exit → AS → Prop) → Prop
  | 0, _, _ => False
  | n + 1, s, Q => ACode C r c s (thenA (fun s' => ALoop C r c n s' Q) Q)

section
variable {C : Cx} {r : Option Nat} {s : AS} {Q Q' : Exit → AS → Prop}
theorem ACode.mono {c : Code} (h : ACode C r c s Q) (hq : ∀ e s', Q e s' → Q' e s') : ACode C r c s Q' := fun E G a w hr =>
  wpIn_mono (h E G a w hr) (fun e a' w' ⟨s', G', h1, h2⟩ => ⟨s', G', hq e s' h1, h2⟩)
theorem ACode.skip (h : Q .normal s) : ACode C r .skip s Q := fun E G a w hr => wpIn_skip ⟨s, G, h, hr⟩
theorem ACode.label {l : Nat} (h : Q .normal s) : ACode C r (.label l) s Q := fun E G a w hr => wpIn_label ⟨s, G, h, hr⟩
theorem ACode.exit {id : Nat} (h : Q (.exit id) s) : ACode C r (.exit id) s Q := fun E G a w hr => wpIn_exit ⟨s, G, h, hr⟩
theorem ACode.goto {l : Nat} (h : Q (.goto l) s) : ACode C r (.goto l) s Q := fun E G a w hr => wpIn_goto ⟨s, G, h, hr⟩
theorem ACode.ret (h : Q .ret s) : ACode C r .ret s Q := fun E G a w hr => wpIn_ret ⟨s, G, h, hr⟩
theorem ACode.seq {x y : Code} (h : ACode C r x s (thenA (fun s' => ACode C r y s' Q) Q)) : ACode C r (.seq x y) s Q := fun E G a w hr =>
  wpIn_seq (wpIn_mono (h E G a w hr) (fun e a' w' ⟨s', G', h1, h2⟩ => by
    cases e with
    | normal => exact h1 E G' a' w' h2
    | _ => exact ⟨s', G', h1, h2⟩))
theorem ACode.cond {c : Operand} {x y : Code} {b : Bool} (hc : evalO s c = some (.bool b)) (h : ACode C r (if b then x else y) s Q) : ACode C r (.cond c x y) s Q := fun E G a w hr =>
  wpIn_cond (hr.eval hc).bool_inv (h E G a w hr)
theorem ACode.cond' {c : Operand} {x y : Code} {b : Bool} (hc : evalO s c = some (.bool b)) (ht : b = true → ACode C r x s Q) (hf : b = false → ACode C r y s Q) : ACode C r (.cond c x y) s Q := by
  refine .cond hc ?_
  cases b
  · exact hf rfl
  · exact ht rfl
theorem ACode.block {id : Nat} {c : Code} (h : ACode C r c s (inBlockA id Q)) : ACode C r (.block id c) s Q := fun E G a w hr =>
  wpIn_block (wpIn_mono (h E G a w hr) (fun e a' w' ⟨s', G', h1, h2⟩ => by
    cases e with
    | exit id' =>
      unfold inBlockA at h1
      unfold Exit.inBlock
      dsimp only at h1 ⊢
      split at h1
      · rename_i hi; rw [if_pos hi]; exact ⟨s', G', h1, h2⟩
      · rename_i hi; rw [if_neg hi]; exact ⟨s', G', h1, h2⟩
    | _ => exact ⟨s', G', h1, h2⟩))
theorem ACode.region {id : Nat} {ops : Array Oper} {draw : Bool} (labs : List Lab) {s' : AS} (h : Der C ops labs (List.range ops.size) s s') (hp : draw = true → psafe ops labs = true) (hq : Q .normal s') : ACode C r (.region id ops draw) s Q := fun E G a w hr => by
  have hQ : ∀ G' a' w', Rel C E G' s' a' w' → (fun e a' w' => ∃ s' G', Q e s' ∧ Rel C E G' s' a' w') Exit.normal a' w' := fun G' a' w' h' => ⟨s', G', hq, h'⟩
  cases draw with
  | false => exact wpIn_region (Der.seq hQ h hr)
  | true =>
    refine wpIn_region_any C.mixed ?_
    have hb : Below w.heap.size w { w with drawn := w.drawn + 1 } := (Below.refl _ w).drew
    have hr' := hr.grow (m' := G.m) hb (fun _ _ => rfl) hr.mz
    have hall : ((List.range ops.size).filter fun i => !(Array.replicate ops.size false).getD i true) = List.range ops.size := List.filter_eq_self.2 (fun i hi => by
      have := List.mem_range.1 hi
      simp [Array.getD_eq_getD_getElem?, this])
    exact Der.any (hp rfl) hQ ops.size (by simp) (fun q o ho hq => by
      exfalso
      rw [Array.getD_eq_getD_getElem?] at hq
      rcases Nat.lt_or_ge q ops.size with h1 | h1
      · simp [h1] at hq
      · simp [Array.getElem?_eq_none (by simpa using h1 : (Array.replicate ops.size false).size ≤ q)] at hq) (by rw [hall]; simp) (by rw [hall]; exact h) hr'
theorem ACode.loop {c : Code} (n : Nat) (h : ALoop C r c n s Q) : ACode C r (.loop c) s Q := fun E G a w hr => by
  refine wpIn_loop_rounds n ?_
  induction n generalizing s G a w with
  | zero => exact h.elim
  | succ n ih =>
    exact wpIn_mono (h E G a w hr) (fun e a' w' ⟨s', G', h1, h2⟩ => by
      cases e with
      | normal => exact ih h1 G' a' w' h2
      | _ => exact ⟨s', G', h1, h2⟩)
end

/-! ## A function -/
def resA (P : Program) (s : AS) : ResultVar → Option AV
  | .tmp t => if t < 1099511627776 then s.tm t else none
  | .cell a t => match (if a < 1099511627776 then s.tm a else none) with
    | some (.ptr id off) => (s.ob[id]?).bind (readAt P t off)
    | some (.cptr cs) => readAt P t 0 cs
    | _ => none
def resL (P : Program) (s : AS) : List ResultVar → Option (List AV)
  | [] => some []
  | x :: l => match resA P s x, resL P s l with
    | some y, some ys => some (y :: ys)
    | _, _ => none
def tup1 : List AV → AV
  | [x] => x
  | l => .tup l
def erT : AV → AV
  | .tup vs => .tup (vs.map er)
  | x => er x
def compA (i : Nat) : AV → Option AV
  | .tup vs => vs[i]?
  | x => if i = 0 then some x else none
/-- A function's own variables stay as they are behind its end: what leads to them leads to what stays. -/
def frz1 (s : AS) : AV → AV
  | .ptr id off => match s.ob[id]? with
    | some cs => .cptr ((cs.drop off).map er1)
    | none => .ptr id off
  | .own t n => match rowOf (s.live t) with
    | some q => if q.2.length = n then .sl 0 (q.2.map (·.map er1)) else .own t n
    | none => .own t n
  | x => x
def frz (s : AS) : AV → AV
  | .fn f a b => .fn f (a.map (frz1 s)) (b.map (frz1 s))
  | .own t n => frz1 s (.own t n)
  | .agg cs => .agg (cs.map (frz1 s))
  | x => x
def frzT (s : AS) : AV → AV
  | .tup vs => .tup (vs.map (frz s))
  | x => frz s x
def rowBlk (s : AS) (G : Gh) (b : Nat) : Prop := ∃ (t : Nat) (e : TypeId) (xs : List (List AV)) (v : Value), s.live t = some (.row e xs) ∧ G.tk t = some v ∧ v.ownBlock = some b
noncomputable instance (s : AS) (G : Gh) (b : Nat) : Decidable (rowBlk s G b) := Classical.propDecidable _
noncomputable def frG (s : AS) (G : Gh) (w : World) : Gh := { G with m := fun b => if b ∈ G.blk ∨ rowBlk s G b then blkSz w b else G.m b }
/-- What a function hands back: its tokens stay behind, but one that may be its caller's. -/
def Out (C : Cx) (fn : Func) (s : AS) (res : AV) (own : Option (Nat × TypeId)) : Prop :=
  ∃ l, resL C.P s fn.results.toList = some l ∧ res = frzT s (erT (tup1 l)) ∧ Pu res ∧ ∀ i e, own = some (i, e) → ∃ t xs, compA i (tup1 l) = some (.sl t xs) ∧ (t = 1 ∨ (t ≠ 0 ∧ t ≠ 2 ∧ s.live t = some (.ty e)))
def start (args : List AV) (N : Nat) : AS := { N := N, tm := fun t => args[t]?, ob := [], live := fun _ => none, next := 3 }

section
variable {C : Cx} {E : Env} {G : Gh} {s : AS} {a : Act} {w : World}
theorem V.erT {x : AV} {v : Value} (h : V G w x v) : V G w (AL.erT x) v := by
  cases x with
  | tup vs =>
    obtain ⟨us, rfl, h1, h2⟩ := h.tup_inv
    exact .tup (by simpa using h1) (fun i c hc u hu => by
      rw [List.getElem?_map] at hc
      obtain ⟨y, hy, rfl⟩ := Option.map_eq_some_iff.1 hc
      exact (h2 i y hy u hu).er)
  | _ => exact h.er
theorem Rel.ofBlk (h : Rel C E G s a w) {b : Nat} (hb : b ∈ G.blk) : ∃ (i : Nat) (cs : List AV), s.ob[i]? = some cs ∧ G.blk[i]? = some b := by
  obtain ⟨i, hi, rfl⟩ := List.mem_iff_getElem.1 hb
  have hi' : i < s.ob.length := by rw [← h.ol]; exact hi
  exact ⟨i, s.ob[i], List.getElem?_eq_getElem hi', List.getElem?_eq_getElem hi⟩
theorem Rel.rowBlk_facts (h : Rel C E G s a w) {b : Nat} (hb : rowBlk s G b) : E.w0.heap.size ≤ b ∧ b < w.heap.size ∧ G.m b = 0 ∧ ∀ (t : Nat) (e : TypeId) (v : Value), s.live t = some (.ty e) → G.tk t = some v → v.ownBlock ≠ some b := by
  obtain ⟨t, e, xs, v, h1, h2, h3⟩ := hb
  obtain ⟨v', k1, k2⟩ := h.lv t _ h1
  rw [h2] at k1
  cases k1
  obtain ⟨f1, f2, _, _⟩ := k2.facts h3
  refine ⟨f1, f2, ?_, fun u e' v' hu hv hg => ?_⟩
  · rcases k2 with ⟨k0, _⟩ | ⟨g, n, c, size, cur, q1, q2, q3, q4, q5, q6, q7, q8, q9, _⟩
    · rw [k0] at h3; cases h3
    · rw [q1] at h3
      cases h3
      exact q9
  · have := h.ld t u _ _ v v' b h1 hu h2 hv h3 hg
    subst this
    rw [h1] at hu
    cases hu
theorem Rel.frMo (h : Rel C E G s a w) : Mo G w (frG s G w) w := by
  refine ⟨fun b o v ho hc => ⟨?_, hc⟩, fun _ _ e => e, fun _ _ e => e, fun _ h => h, fun _ h => h⟩
  show o < (if b ∈ G.blk ∨ rowBlk s G b then blkSz w b else G.m b)
  by_cases hb : b ∈ G.blk ∨ rowBlk s G b
  · have h0 : G.m b = 0 ∨ G.m b = blkSz w b := by
      rcases hb with hb | hb
      · obtain ⟨i, cs, h1, h2⟩ := h.ofBlk hb
        exact (h.ob i cs b h1 h2).2.1.imp_right (·.2)
      · exact .inl (h.rowBlk_facts hb).2.2.1
    rw [if_pos hb]
    rcases h0 with h0 | h0 <;> omega
  · rw [if_neg hb]; exact ho
theorem Rel.frz1 (h : Rel C E G s a w) {x : AV} {v : Value} (hV : V G w x v) : V (frG s G w) w (AL.frz1 s x) v := by
  cases hV with
  | @ptr id off b hb hkc =>
    show V (frG s G w) w (match s.ob[id]? with
      | some cs => .cptr ((cs.drop off).map AL.er1)
      | none => .ptr id off) _
    cases e2 : s.ob[id]? with
    | none => exact .ptr hb hkc
    | some cs =>
      show V (frG s G w) w (.cptr ((cs.drop off).map AL.er1)) _
      obtain ⟨o1, o2, oo⟩ := h.ob id cs b e2 hb
      obtain ⟨cur, T, o3, o4, o5⟩ := oo.cells hkc
      have key : ∀ (i : Nat) (x : AV), ((cs.drop off).map er1)[i]? = some x → ∃ y, x = er1 y ∧ cs[off + i]? = some y ∧ cur[off + i]? = some ((cur[off + i]?).getD undef) := by
        intro i x hx
        rw [List.getElem?_map] at hx
        obtain ⟨y, hy, rfl⟩ := Option.map_eq_some_iff.1 hx
        rw [List.getElem?_drop] at hy
        have hl := (List.getElem?_eq_some_iff.1 hy).1
        have hl' : off + i < cur.size := by omega
        exact ⟨y, rfl, hy, by rw [Array.getElem?_eq_getElem hl']; rfl⟩
      refine .cptr (fun i => (cur[off + i]?).getD undef) (fun i x hx => ?_) (fun i x hx => ?_)
      · obtain ⟨y, rfl, hy, hc⟩ := key i x hx
        have hl := (Array.getElem?_eq_some_iff.1 hc).1
        refine ⟨?_, by rw [cell_of_heap o3]; exact hc, (o5 _ y _ hy hc).2⟩
        show off + i < (if b ∈ G.blk ∨ rowBlk s G b then blkSz w b else G.m b)
        rw [if_pos (.inl (List.mem_of_getElem? hb))]
        unfold blkSz
        rw [o3]; exact hl
      · obtain ⟨y, rfl, hy, hc⟩ := key i x hx
        exact ((o5 _ y _ hy hc).1.mono h.frMo).er1
  | int k n => exact .int k n
  | bool b => exact .bool b
  | str s => exact .str s
  | agg a b c => exact (V.agg a b c).mono h.frMo
  | tup a b => exact (V.tup a b).mono h.frMo
  | sl0 e => exact (V.sl0 e).mono h.frMo
  | sl f a b c d e g h' i j => exact (V.sl f a b c d e g h' i j).mono h.frMo
  | cptr f a b => exact (V.cptr f a b).mono h.frMo
  | nilp => exact .nilp
  | fn a b c d => exact (V.fn a b c d).mono h.frMo
  | nilf => exact .nilf
  | @own t n c A h0 ha =>
    show V (frG s G w) w (match rowOf (s.live t) with
      | some q => if q.2.length = n then .sl 0 (q.2.map (·.map AL.er1)) else .own t n
      | none => .own t n) _
    cases hq : rowOf (s.live t) with
    | none => exact (V.own h0 ha).mono h.frMo
    | some q =>
      obtain ⟨e, xs⟩ := q
      dsimp only
      split
      case isFalse => exact (V.own h0 ha).mono h.frMo
      rename_i hn
      have hlive := rowOf_ok hq
      dsimp only at hlive hn
      rcases h.rowAt hlive ha with ⟨e0, hx0⟩ | ⟨g, n', c', size, cur, h2, h3, h4, h5, h6, h7, h8, h9, h10, h11, h12, h13, h14⟩
      · subst hx0
        have hn0 : n = 0 := by simpa using hn.symm
        subst hn0
        exact .sl0 (.inl rfl)
      · injection h2 with q1 q2 q3
        subst q1; subst q2; subst q3
        rcases Nat.eq_zero_or_pos xs.length with hz | hpos
        · have hnil : xs = [] := List.eq_nil_of_length_eq_zero hz
          subst hnil
          rw [h12]
          exact .sl0 (.inl rfl)
        · have hin : ∀ (j i : Nat) (el : List AV) (x : AV), (xs.map (·.map AL.er1))[j]? = some el → el[i]? = some x → ∃ el0 y, xs[j]? = some el0 ∧ el0[i]? = some y ∧ x = AL.er1 y ∧ cur[j * size + i]? = some ((cur[j * size + i]?).getD undef) ∧ j * size + i < cur.size := by
            intro j i el x hj hi
            rw [List.getElem?_map] at hj
            obtain ⟨el0, hj0, rfl⟩ := Option.map_eq_some_iff.1 hj
            rw [List.getElem?_map] at hi
            obtain ⟨y, hy, rfl⟩ := Option.map_eq_some_iff.1 hi
            have hjl := (List.getElem?_eq_some_iff.1 hj0).1
            have hil := (List.getElem?_eq_some_iff.1 hy).1
            rw [h13 el0 (List.mem_of_getElem? hj0)] at hil
            have hjs : (j + 1) * size ≤ c * size := Nat.mul_le_mul_right _ (by omega)
            rw [Nat.add_mul] at hjs
            have hlt : j * size + i < cur.size := by omega
            exact ⟨el0, y, hj0, hy, rfl, by rw [Array.getElem?_eq_getElem hlt]; rfl, hlt⟩
          refine .sl (fun j i => (cur[j * size + i]?).getD undef) (by omega) (by simp [h12]) h5 h6 h8 (fun el hel => ?_) (.inl rfl) (fun j i el x hj hi => ?_) (fun j i el x hj hi => ?_)
          · obtain ⟨el0, h0', rfl⟩ := List.mem_map.1 hel
            rw [List.length_map]; exact h13 el0 h0'
          · obtain ⟨el0, y, k1, k2, rfl, k4, k5⟩ := hin j i el x hj hi
            refine ⟨?_, by rw [cell_of_heap h4, Nat.zero_add]; exact k4, (h14 j i el0 y _ k1 k2 k4).2⟩
            show 0 + (j * size + i) < (if g ∈ G.blk ∨ rowBlk s G g then blkSz w g else G.m g)
            rw [if_pos (.inr ⟨t, e, xs, _, hlive, ha, rfl⟩)]
            unfold blkSz
            rw [h4]; dsimp only; omega
          · obtain ⟨el0, y, k1, k2, rfl, k4, k5⟩ := hin j i el x hj hi
            exact ((h14 j i el0 y _ k1 k2 k4).1.mono h.frMo).er1
  | eptr a => exact (V.eptr a).mono h.frMo
  | mp a b => exact (V.mp a b).mono h.frMo
  | nilm => exact .nilm
  | ifc a => exact (V.ifc a).mono h.frMo
  | nili => exact .nili
  | opq a => exact .opq a
  | tp0 a b => exact (V.tp0 a b).mono h.frMo
  | tp1 a b => exact (V.tp1 a b).mono h.frMo
theorem Rel.frz (h : Rel C E G s a w) {x : AV} {v : Value} (hV : V G w x v) : V (frG s G w) w (AL.frz s x) v := by
  cases x with
  | fn f a b =>
    cases hV with
    | fn h1 h2 h3 h4 =>
      refine .fn (by simpa using h1) (by simpa using h2) (fun i c hc u hu => ?_) (fun i c hc u hu => ?_)
      · rw [List.getElem?_map] at hc
        obtain ⟨y, hy, rfl⟩ := Option.map_eq_some_iff.1 hc
        exact h.frz1 (h3 i y hy u hu)
      · rw [List.getElem?_map] at hc
        obtain ⟨y, hy, rfl⟩ := Option.map_eq_some_iff.1 hc
        exact h.frz1 (h4 i y hy u hu)
  | own t n => exact h.frz1 hV
  | agg cs =>
    obtain ⟨vs, rfl, hl, hv⟩ := hV.agg_inv
    refine VL.agg ⟨by simpa using hl, fun i x v hx hv' => ?_⟩
    rw [List.getElem?_map] at hx
    obtain ⟨y, hy, rfl⟩ := Option.map_eq_some_iff.1 hx
    exact ⟨h.frz1 (hv i y v hy hv').1, (hv i y v hy hv').2⟩
  | _ => exact hV.mono h.frMo
theorem Rel.frzT (h : Rel C E G s a w) {x : AV} {v : Value} (hV : V G w x v) : V (frG s G w) w (AL.frzT s x) v := by
  cases x with
  | tup vs =>
    obtain ⟨us, rfl, h1, h2⟩ := hV.tup_inv
    refine .tup (by simpa using h1) (fun i c hc u hu => ?_)
    rw [List.getElem?_map] at hc
    obtain ⟨y, hy, rfl⟩ := Option.map_eq_some_iff.1 hc
    exact h.frz (h2 i y hy u hu)
  | _ => exact h.frz hV
theorem loadVar_run {P : Program} {t : TypeId} {ad : Addr} {v : Value} (h : (Instr.loadAt t (.pointer (some ad))).run P w = .ok v w) : (loadVar t ad).run P w = .ok v w := by
  unfold Instr.loadAt Instr.sureAddr at h
  simp only [Sem.run_bind, Sem.run_pure, Result.andThen] at h
  exact h
theorem resA_ok (h : Rel C E G s a w) {x : ResultVar} {y : AV} (hx : resA C.P s x = some y) :
    ∃ v, (match x with | .tmp t => pure (a.tmps.getD t undef) | .cell b t => do loadVar t (← asAddr (a.tmps.getD b undef)) : Sem Value).run C.P w = .ok v w ∧ V G w y v := by
  cases x with
  | tmp t =>
    simp only [resA] at hx
    split at hx
    case isFalse => cases hx
    rename_i hlt
    obtain ⟨v, h1, h2⟩ := h.tm t y hx
    have h1 := slot_tmp h1 (.inl hlt)
    exact ⟨v, by simp [Array.getD_eq_getD_getElem?, h1], h2⟩
  | cell b t =>
    simp only [resA] at hx
    split at hx
    · rename_i id off hb
      obtain ⟨cs, hcs, hx⟩ := Option.bind_eq_some_iff.1 hx
      split at hb
      case isFalse => cases hb
      rename_i hlt
      obtain ⟨v, h1, h2⟩ := h.tm b _ hb
      have h1 := slot_tmp h1 (.inl hlt)
      cases h2 with
      | @ptr _ _ b' hb' hkc =>
        obtain ⟨o1, o2, oo⟩ := h.ob id cs b' hcs hb'
        obtain ⟨cur, T, o3, o4, o5⟩ := oo.cells hkc
        obtain ⟨r, r1, r2⟩ := readAt_run (P := C.P) (G := G) (w := w) (b := b') (o := 0) (cs := cs) (fun i => (cur[i]?).getD undef) (fun i y hy => by
          have hl : i < cur.size := by have := (List.getElem?_eq_some_iff.1 hy).1; omega
          have hg : cur[i]? = some cur[i] := Array.getElem?_eq_getElem hl
          refine ⟨by rw [Nat.zero_add, cell_of_heap o3, hg]; rfl, ?_⟩
          rw [hg]; exact o5 i y _ hy hg) hx
        rw [Nat.zero_add] at r1
        exact ⟨r, by simp only [Array.getD_eq_getD_getElem?, h1, Option.getD_some, asAddr, Sem.run_bind, Sem.run_pure, Result.andThen]; exact loadVar_run r1, r2⟩
    · rename_i cs hb
      split at hb
      case isFalse => cases hb
      rename_i hlt
      obtain ⟨v, h1, h2⟩ := h.tm b _ hb
      have h1 := slot_tmp h1 (.inl hlt)
      cases h2 with
      | @cptr _ b' o f g1 g2 =>
        obtain ⟨r, r1, r2⟩ := readAt_run (P := C.P) (G := G) (w := w) (b := b') (o := o) (cs := cs) f (fun i y hy => ⟨(g1 i y hy).2.1, g2 i y hy, (g1 i y hy).2.2⟩) hx
        rw [Nat.add_zero] at r1
        exact ⟨r, by simp only [Array.getD_eq_getD_getElem?, h1, Option.getD_some, asAddr, Sem.run_bind, Sem.run_pure, Result.andThen]; exact loadVar_run r1, r2⟩
    · cases hx
theorem resL_ok (h : Rel C E G s a w) : ∀ {l : List ResultVar} {ys : List AV}, resL C.P s l = some ys →
    ∃ vs : List Value, (l.mapM (fun x => match x with | .tmp t => pure (a.tmps.getD t undef) | .cell b t => do loadVar t (← asAddr (a.tmps.getD b undef)) : ResultVar → Sem Value)).run C.P w = .ok vs w ∧ ys.length = vs.length ∧
      ∀ (i : Nat) (y : AV) (v : Value), ys[i]? = some y → vs[i]? = some v → V G w y v
  | [], ys, hy => by cases hy; exact ⟨[], rfl, rfl, fun i y v h => by simp at h⟩
  | x :: l, ys, hy => by
    unfold resL at hy
    cases h1 : resA C.P s x with
    | none => rw [h1] at hy; cases hy
    | some z =>
      cases h2 : resL C.P s l with
      | none => rw [h1, h2] at hy; cases hy
      | some zs =>
        rw [h1, h2] at hy
        cases hy
        obtain ⟨v, r1, r2⟩ := resA_ok h h1
        obtain ⟨vs, q1, q2, q3⟩ := resL_ok h h2
        refine ⟨v :: vs, ?_, by simp [q2], fun i y u hy hu => ?_⟩
        · rw [List.mapM_cons]
          simp only [Sem.run_bind]
          erw [r1]
          simp only [Result.andThen, Sem.run_bind]
          erw [q1]
          rfl
        · cases i with
          | zero => simp at hy hu; subst hy; subst hu; exact r2
          | succ i => exact q3 i y u (by simpa using hy) (by simpa using hu)
/-- On the way out marks are shut. -/
theorem leave_ok {fn : Func} {n : Nat} {F : Fence} {R : Ending → World → Prop} {tmps : Array Value} : ∀ (ds : List Deferred) {s : AS} {a : Act} {w : World} {G : Gh}, Rel C E G s a w → a.defers = ds → a.tmps = tmps →
    (∀ (w' : World) (a' : Act), a'.tmps = tmps → Rel C E G s a' w' → Mo G w G w' → ∃ v, (results fn tmps).run C.P w' = .ok v w' ∧ R (.returned v) w') → LeavesInM F n C.P fn tmps R ds .returning w
  | [], s, a, w, G, h, hd, ht, hk => by
    obtain ⟨v, h1, h2⟩ := hk w a ht h (Mo.refl G w)
    exact ⟨v, h1, h2⟩
  | d :: ds, s, a, w, G, h, hd, ht, hk => by
    obtain ⟨D, rfl, hst⟩ := h.df.1 d (by rw [hd]; exact List.mem_cons_self)
    have hnd := h.df.2
    rw [hd, List.nodup_cons] at hnd
    refine ⟨by simp, .inl ⟨D, _, rfl, run_takeDeferred hst.2.1, ?_⟩⟩
    have h1 : Rel C E G s { a with defers := ds } w := { h with df := ⟨fun d' hd' => h.df.1 d' (by rw [hd]; exact List.mem_cons_of_mem _ hd'), hnd.2⟩, dm := fun D' hD' hm => h.dm D' hD' (by rw [hd]; exact List.mem_cons_of_mem _ hm) }
    obtain ⟨h2, mo⟩ := h1.putObj (o' := .deferred none) hst (fun _ _ e => by cases e) (fun _ _ _ e => by cases e) (fun d' hd' e => hnd.1 (e ▸ hd')) (fun hm => h.dm D hm (by rw [hd]; exact List.mem_cons_self)) s.lp (fun k r hk => .inr ⟨(by
      rintro rfl
      have := (h.lp k r hk).2.1.symm.trans hst.2.1
      cases this), hk⟩)
    exact leave_ok ds (s := s) h2 rfl ht (fun w' a' e0 hr hm => hk w' a' e0 hr (mo.trans hm))
theorem ACall.mk {f : FuncId} {fn : Func} {c : Code} {args : List AV} {res : AV} {own : Option (Nat × TypeId)} (hf : C.P.funcs[f]? = some fn) (hname : (fn.name == "runtime.NumGoroutine") = false) (hb : fn.body = some c) (hn : args.length ≤ fn.ntmps)
    (h : ACode C none c (start args fn.ntmps) (fun e s' => (e = .ret ∨ e = .normal) ∧ Out C fn s' res own)) : ACall C f args res own := by
  refine ⟨⟨fn, c, hf, hname, hb⟩, fun m w vs hgi hz hlen hV => ?_⟩
  have hinit : Rel C ⟨w, m, gh1 m, w, []⟩ (gh1 m) (start args fn.ntmps) { tmps := vs ++ Array.replicate (fn.ntmps - vs.size) undef, defers := [] } w := by
    refine ⟨by simp [start]; omega, fun t x hx => ?_, .nil _ _, Mo.refl _ _, (fun l o h => by cases h), (fun l r t x h => by cases h), (fun D h => by cases h), (fun D h => by cases h), Below.refl _ _, fun _ _ => rfl, hz, hgi, rfl, (fun i j b h => by simp [gh1] at h), (fun i cs b h => by simp [start] at h), rfl, .inl rfl, fun t ht => ?_, Nat.le_refl _, (fun t e h => by cases h), (fun t u e e' v v' g h => by cases h)⟩
    · have hx : args[t]? = some x := hx
      have hlt := (List.getElem?_eq_some_iff.1 hx).1
      have hlt' : t < vs.size := by omega
      exact ⟨vs[t], slot_of (by rw [Array.getElem?_append_left hlt']; exact Array.getElem?_eq_getElem hlt'), hV t x _ hx (Array.getElem?_eq_getElem hlt')⟩
    · show tk1 t = none
      have ht : 3 ≤ t := ht
      unfold tk1; rw [if_neg (by omega)]
  refine (callsIn_wide (n := 0)).1 (callsIn_of_wp_marks (F := Fence.wide) hf hb trivial ?_)
  have := h ⟨w, m, gh1 m, w, []⟩ (gh1 m) _ w hinit
  refine wpIn_mono this (fun e a' w' ⟨s', G', ⟨he, l, hl, hres, hpu, hown⟩, hrel⟩ => ?_)
  have fin : LeavesInM Fence.wide 0 C.P fn a'.tmps (fun e w' => ∃ v m', e = .returned v ∧ Below w.heap.size w w' ∧ (∀ b, b < w.heap.size → m' b = m b) ∧ (∀ b, w'.heap.size ≤ b → m' b = 0) ∧ V (gh1 m') w' res v ∧ OwnR C w.heap.size m' w' own v) a'.defers .returning w' := by
    refine leave_ok _ hrel rfl rfl (fun w'' a'' ht0 hrel _ => ?_)
    rw [← ht0]
    obtain ⟨us, q1, q2, q3⟩ := resL_ok hrel hl
    have hrun : (results fn a''.tmps).run C.P w'' = .ok (if h : us.toArray.size = 1 then us.toArray[0] else .tuple us.toArray) w'' := by
      unfold results
      simp only [Sem.run_bind]
      rw [Array.mapM_eq_mapM_toList, Sem.run_map]
      erw [q1]
      rfl
    have hVt : V G' w'' (tup1 l) (if h : us.toArray.size = 1 then us.toArray[0] else .tuple us.toArray) := by
      match l, us, q2, q3 with
      | [x], [u], _, q3 => simpa [tup1] using q3 0 x u rfl rfl
      | [], [], _, q3 => exact .tup rfl (fun i c h => by simp at h)
      | x :: y :: l, u :: v :: us, q2, q3 =>
        rw [dif_neg (by simp)]
        exact .tup (by simpa using q2) (fun i c hc v hv => q3 i c v hc (by simpa using hv))
    refine ⟨_, hrun, _, (frG s' G' w'').m, rfl, hrel.be, (fun b hb => ?_), (fun b hb => ?_), ?_, ?_⟩
    · show (if b ∈ G'.blk ∨ rowBlk s' G' b then blkSz w'' b else G'.m b) = m b
      rw [if_neg (fun hm => by
        have hb' : b < w.heap.size := hb
        rcases hm with hm | hm
        · obtain ⟨i, cs, e1, e2⟩ := hrel.ofBlk hm
          have := (hrel.ob i cs b e1 e2).1
          have h3 : w.heap.size ≤ b := this
          omega
        · have h3 : w.heap.size ≤ b := (hrel.rowBlk_facts hm).1
          omega)]
      exact hrel.m0 b hb
    · show (if b ∈ G'.blk ∨ rowBlk s' G' b then blkSz w'' b else G'.m b) = 0
      rw [if_neg (fun hm => by
        rcases hm with hm | hm
        · obtain ⟨i, cs, e1, e2⟩ := hrel.ofBlk hm
          have := hrel.lt e2
          omega
        · have := (hrel.rowBlk_facts hm).2.1
          omega)]
      exact hrel.mz b hb
    · have hVf : V (frG s' G' w'') w'' res (if h : us.toArray.size = 1 then us.toArray[0] else .tuple us.toArray) := by rw [hres]; exact hrel.frzT hVt.erT
      exact V.pure (G := frG s' G' w'') hrel.t1 hVf hpu
    · intro i e hie
      obtain ⟨t, xs, hcomp, ht⟩ := hown i e hie
      have hcv : ∃ u, compV i (if h : us.toArray.size = 1 then us.toArray[0] else .tuple us.toArray) = some u ∧ V G' w'' (.sl t xs) u := by
        generalize (if h : us.toArray.size = 1 then us.toArray[0] else .tuple us.toArray) = v at hVt
        unfold compA at hcomp
        split at hcomp
        · rename_i ws hws
          rw [hws] at hVt
          obtain ⟨vs', rfl, g1, g2⟩ := hVt.tup_inv
          have hil : i < vs'.size := by have := (List.getElem?_eq_some_iff.1 hcomp).1; omega
          exact ⟨vs'[i], Array.getElem?_eq_getElem hil, g2 i _ hcomp _ (Array.getElem?_eq_getElem hil)⟩
        · split at hcomp
          case isFalse => cases hcomp
          rename_i hi0
          subst hi0
          have hx := Option.some.inj hcomp
          rw [hx] at hVt
          refine ⟨v, ?_, hVt⟩
          cases hVt <;> rfl
      obtain ⟨u, hu, hVu⟩ := hcv
      refine ⟨u, hu, ?_⟩
      have htk : t ≠ 0 → t ≠ 2 → G'.tk t = some u := fun h0 h2 => hVu.tok_inv h0 h2
      rcases ht with rfl | ⟨h0, h2, hlive⟩
      · have := htk (by decide) (by decide)
        rw [hrel.t1] at this
        exact .inl (Option.some.inj this).symm
      · obtain ⟨v', k1, hT⟩ := hrel.lv t _ hlive
        rw [htk h0 h2] at k1
        have : u = v' := Option.some.inj k1
        subst this
        rcases hT with k0 | ⟨g, n, c, size, cur, k2, k3, k4, k5, k6, k7, k8, k9, k10, k11⟩
        · exact .inl k0
        · exact .inr ⟨g, n, c, size, cur, k2, k3, k4, k5, k6, k7, k8, k9, by
          show (if g ∈ G'.blk ∨ rowBlk s' G' g then blkSz w'' g else G'.m g) = _
          rw [if_neg (fun hm => by
            rcases hm with hm | hm
            · obtain ⟨i, cs, e1, e2⟩ := hrel.ofBlk hm
              exact k11 i e2
            · exact (hrel.rowBlk_facts hm).2.2.2 t e u hlive (htk h0 h2) (by rw [k2]; rfl))]
          exact k10⟩
  rcases he with rfl | rfl
  · exact fin
  · exact fin
theorem ACallQ.mk {f : FuncId} {fn : Func} {c : Code} {args : List AV} {Qr : AV → Prop} {own : Option (Nat × TypeId)} (hf : C.P.funcs[f]? = some fn) (hname : (fn.name == "runtime.NumGoroutine") = false) (hb : fn.body = some c) (hn : args.length ≤ fn.ntmps)
    (h : ACode C none c (start args fn.ntmps) (fun e s' => (e = .ret ∨ e = .normal) ∧ ∃ res, Qr res ∧ Out C fn s' res own)) : ACallQ C f args Qr own := by
  refine ⟨⟨fn, c, hf, hname, hb⟩, fun m w vs hgi hz hlen hV => ?_⟩
  have hinit : Rel C ⟨w, m, gh1 m, w, []⟩ (gh1 m) (start args fn.ntmps) { tmps := vs ++ Array.replicate (fn.ntmps - vs.size) undef, defers := [] } w := by
    refine ⟨by simp [start]; omega, fun t x hx => ?_, .nil _ _, Mo.refl _ _, (fun l o h => by cases h), (fun l r t x h => by cases h), (fun D h => by cases h), (fun D h => by cases h), Below.refl _ _, fun _ _ => rfl, hz, hgi, rfl, (fun i j b h => by simp [gh1] at h), (fun i cs b h => by simp [start] at h), rfl, .inl rfl, fun t ht => ?_, Nat.le_refl _, (fun t e h => by cases h), (fun t u e e' v v' g h => by cases h)⟩
    · have hx : args[t]? = some x := hx
      have hlt := (List.getElem?_eq_some_iff.1 hx).1
      have hlt' : t < vs.size := by omega
      exact ⟨vs[t], slot_of (by rw [Array.getElem?_append_left hlt']; exact Array.getElem?_eq_getElem hlt'), hV t x _ hx (Array.getElem?_eq_getElem hlt')⟩
    · show tk1 t = none
      have ht : 3 ≤ t := ht
      unfold tk1; rw [if_neg (by omega)]
  refine (callsIn_wide (n := 0)).1 (callsIn_of_wp_marks (F := Fence.wide) hf hb trivial ?_)
  have := h ⟨w, m, gh1 m, w, []⟩ (gh1 m) _ w hinit
  refine wpIn_mono this (fun e a' w' ⟨s', G', ⟨he, res, hQr, l, hl, hres, hpu, hown⟩, hrel⟩ => ?_)
  have fin : LeavesInM Fence.wide 0 C.P fn a'.tmps (fun e w' => ∃ res v m', Qr res ∧ e = .returned v ∧ Below w.heap.size w w' ∧ (∀ b, b < w.heap.size → m' b = m b) ∧ (∀ b, w'.heap.size ≤ b → m' b = 0) ∧ V (gh1 m') w' res v ∧ OwnR C w.heap.size m' w' own v) a'.defers .returning w' := by
    refine leave_ok _ hrel rfl rfl (fun w'' a'' ht0 hrel _ => ?_)
    rw [← ht0]
    obtain ⟨us, q1, q2, q3⟩ := resL_ok hrel hl
    have hrun : (results fn a''.tmps).run C.P w'' = .ok (if h : us.toArray.size = 1 then us.toArray[0] else .tuple us.toArray) w'' := by
      unfold results
      simp only [Sem.run_bind]
      rw [Array.mapM_eq_mapM_toList, Sem.run_map]
      erw [q1]
      rfl
    have hVt : V G' w'' (tup1 l) (if h : us.toArray.size = 1 then us.toArray[0] else .tuple us.toArray) := by
      match l, us, q2, q3 with
      | [x], [u], _, q3 => simpa [tup1] using q3 0 x u rfl rfl
      | [], [], _, q3 => exact .tup rfl (fun i c h => by simp at h)
      | x :: y :: l, u :: v :: us, q2, q3 =>
        rw [dif_neg (by simp)]
        exact .tup (by simpa using q2) (fun i c hc v hv => q3 i c v hc (by simpa using hv))
    refine ⟨_, hrun, res, _, (frG s' G' w'').m, hQr, rfl, hrel.be, (fun b hb => ?_), (fun b hb => ?_), ?_, ?_⟩
    · show (if b ∈ G'.blk ∨ rowBlk s' G' b then blkSz w'' b else G'.m b) = m b
      rw [if_neg (fun hm => by
        have hb' : b < w.heap.size := hb
        rcases hm with hm | hm
        · obtain ⟨i, cs, e1, e2⟩ := hrel.ofBlk hm
          have := (hrel.ob i cs b e1 e2).1
          have h3 : w.heap.size ≤ b := this
          omega
        · have h3 : w.heap.size ≤ b := (hrel.rowBlk_facts hm).1
          omega)]
      exact hrel.m0 b hb
    · show (if b ∈ G'.blk ∨ rowBlk s' G' b then blkSz w'' b else G'.m b) = 0
      rw [if_neg (fun hm => by
        rcases hm with hm | hm
        · obtain ⟨i, cs, e1, e2⟩ := hrel.ofBlk hm
          have := hrel.lt e2
          omega
        · have := (hrel.rowBlk_facts hm).2.1
          omega)]
      exact hrel.mz b hb
    · have hVf : V (frG s' G' w'') w'' res (if h : us.toArray.size = 1 then us.toArray[0] else .tuple us.toArray) := by rw [hres]; exact hrel.frzT hVt.erT
      exact V.pure (G := frG s' G' w'') hrel.t1 hVf hpu
    · intro i e hie
      obtain ⟨t, xs, hcomp, ht⟩ := hown i e hie
      have hcv : ∃ u, compV i (if h : us.toArray.size = 1 then us.toArray[0] else .tuple us.toArray) = some u ∧ V G' w'' (.sl t xs) u := by
        generalize (if h : us.toArray.size = 1 then us.toArray[0] else .tuple us.toArray) = v at hVt
        unfold compA at hcomp
        split at hcomp
        · rename_i ws hws
          rw [hws] at hVt
          obtain ⟨vs', rfl, g1, g2⟩ := hVt.tup_inv
          have hil : i < vs'.size := by have := (List.getElem?_eq_some_iff.1 hcomp).1; omega
          exact ⟨vs'[i], Array.getElem?_eq_getElem hil, g2 i _ hcomp _ (Array.getElem?_eq_getElem hil)⟩
        · split at hcomp
          case isFalse => cases hcomp
          rename_i hi0
          subst hi0
          have hx := Option.some.inj hcomp
          rw [hx] at hVt
          refine ⟨v, ?_, hVt⟩
          cases hVt <;> rfl
      obtain ⟨u, hu, hVu⟩ := hcv
      refine ⟨u, hu, ?_⟩
      have htk : t ≠ 0 → t ≠ 2 → G'.tk t = some u := fun h0 h2 => hVu.tok_inv h0 h2
      rcases ht with rfl | ⟨h0, h2, hlive⟩
      · have := htk (by decide) (by decide)
        rw [hrel.t1] at this
        exact .inl (Option.some.inj this).symm
      · obtain ⟨v', k1, hT⟩ := hrel.lv t _ hlive
        rw [htk h0 h2] at k1
        have : u = v' := Option.some.inj k1
        subst this
        rcases hT with k0 | ⟨g, n, c, size, cur, k2, k3, k4, k5, k6, k7, k8, k9, k10, k11⟩
        · exact .inl k0
        · exact .inr ⟨g, n, c, size, cur, k2, k3, k4, k5, k6, k7, k8, k9, by
          show (if g ∈ G'.blk ∨ rowBlk s' G' g then blkSz w'' g else G'.m g) = _
          rw [if_neg (fun hm => by
            rcases hm with hm | hm
            · obtain ⟨i, cs, e1, e2⟩ := hrel.ofBlk hm
              exact k11 i e2
            · exact (hrel.rowBlk_facts hm).2.2.2 t e u hlive (htk h0 h2) (by rw [k2]; rfl))]
          exact k10⟩
  rcases he with rfl | rfl
  · exact fin
  · exact fin
end
end Go.Proofs.AL
namespace Go.Proofs.AL
open Go Go.RowKit
set_option linter.unusedSimpArgs false
set_option linter.unusedVariables false

/-! ## Scopes: jumps ahead -/
section
variable {P : Program} {b : Frame} {a : Act} {k : List Item} {cs : List Frame} {w : World}
theorem stepR_scope {c : Code} : step P (lone (b.atR a (.code (.scope c) :: k)) cs w) = .next (lone (b.atR a (.code c :: .inScope c :: k)) cs w) :=
  step_lone_go (by simp [stepG, stepG.exec, Frame.atR])
theorem stepR_inScope {c : Code} : step P (lone (b.atR a (.inScope c :: k)) cs w) = .next (lone (b.atR a k) cs w) :=
  step_lone_go (by simp [stepG, stepG.exec, Frame.atR])
variable {F : Fence} {n : Nat} {Q : Exit → Act → World → Prop}
def noGotoW (Q : Exit → Act → World → Prop) : Exit → Act → World → Prop
  | .goto _, _, _ => False
  | e, a, w => Q e a w
def inScopeW (F : Fence) (n : Nat) (P : Program) (c : Code) (Q : Exit → Act → World → Prop) : Exit → Act → World → Prop
  | .goto l, a, w => ∃ rest, findLabel c l = some rest ∧ rest.wpIn F n P (noGotoW Q) a w
  | e, a, w => Q e a w
theorem wpIn_scope {c : Code} (h : c.wpIn F n P (inScopeW F n P c Q) a w) : (Code.scope c).wpIn F n P Q a w := by
  intro b k cs hro hb hr
  have h0 : (lone (b.atR a (.code (.scope c) :: k)) cs w).fenced P F := fenced_calm hb hr rfl
  have fin : ∀ {m : Machine} {e : Exit} {a₁ : Act} {w₁ : World}, (∀ l, e ≠ .goto l) → ArrivesIn (Machine.fenced P F) P m b (.inScope c :: k) cs e a₁ w₁ → ArrivesIn (Machine.fenced P F) P m b k cs e a₁ w₁ := by
    intro m e a₁ w₁ hg harr
    cases e with
    | normal => exact StepsIn.trans harr (.one (fenced_calm hb hr rfl) stepR_inScope)
    | exit id =>
      have hx : exitTo id (.inScope c :: k) = exitTo id k := by simp [exitTo]
      exact ⟨fun k' hk => harr.1 k' (by rw [hx]; exact hk), fun hr' hk => let ⟨k₁, h1, h2⟩ := harr.2 hr' (by rw [hx]; exact hk); ⟨k₁, h1, h2⟩⟩
    | goto l => exact absurd rfl (hg l)
    | ret => exact harr
    | panic ch => exact harr
    | outgrown => exact harr
  obtain ⟨e, a₁, w₁, hq, harr⟩ := h b (.inScope c :: k) cs hro hb hr
  by_cases hg : ∃ l, e = .goto l
  · obtain ⟨l, rfl⟩ := hg
    obtain ⟨rest, hf, hrest⟩ := hq
    have hgo : gotoIn l (.inScope c :: k) = some (.code rest :: .inScope c :: k) := by simp [gotoIn, hf]
    obtain ⟨e₂, a₂, w₂, hq₂, harr₂⟩ := hrest b (.inScope c :: k) cs hro hb hr
    have hne : ∀ l, e₂ ≠ .goto l := by rintro l rfl; exact hq₂.elim
    refine ⟨e₂, a₂, w₂, ?_, .of_steps (.head h0 stepR_scope (harr.1 _ hgo)) (fin hne harr₂)⟩
    cases e₂ <;> first | exact hq₂ | exact absurd rfl (hne _)
  · have hne : ∀ l, e ≠ .goto l := fun l hl => hg ⟨l, hl⟩
    refine ⟨e, a₁, w₁, ?_, .of_steps (.one h0 stepR_scope) (fin hne harr)⟩
    cases e <;> first | exact hq | exact absurd rfl (hne _)
end
def noGotoA (Q : Exit → AS → Prop) : Exit → AS → Prop
  | .goto _, _ => False
  | e, s => Q e s
def inScopeA (C : Cx) (r : Option Nat) (c : Code) (Q : Exit → AS → Prop) : Exit → AS → Prop
  | .goto l, s => ∃ rest, findLabel c l = some rest ∧ ACode C r rest s (noGotoA Q)
  | e, s => Q e s
theorem ACode.scope {C : Cx} {r : Option Nat} {c : Code} {s : AS} {Q : Exit → AS → Prop} (h : ACode C r c s (inScopeA C r c Q)) : ACode C r (.scope c) s Q := fun E G a w hr => by
  refine wpIn_scope (wpIn_mono (h E G a w hr) ?_)
  rintro e a' w' ⟨s', G', hq, hrel⟩
  cases e with
  | goto l =>
    obtain ⟨rest, hf, hc⟩ := hq
    refine ⟨rest, hf, wpIn_mono (hc E G' a' w' hrel) ?_⟩
    rintro e a'' w'' ⟨s'', G'', hq', hrel'⟩
    cases e with
    | goto l => exact hq'.elim
    | _ => exact ⟨s'', G'', hq', hrel'⟩
  | _ => exact ⟨s', G', hq, hrel⟩
end Go.Proofs.AL
