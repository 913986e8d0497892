/- Laid by a program of this session out of the seat's translation. -/
import Derived.Test.YteafndooaokagaaPDiffx0
import Derived.Test.YteafndooaokagaaPDiffx3
import Derived.Test.YteafndooaokagaaPDiffx6
namespace Go.Proofs.Yteafndooaokagaa.PDiff
open Go.RowKit Go.Proofs.YteafndooaokagaaW.PrintWords Go.Proofs.YteafndooaokagaaW.PrintLast Go.Proofs.YteafndooaokagaaW.PrintMore
attribute [local go_sem] max2_int min2_int max_two min_two max_three min_three max_four min_four   -- for this text's walks alone
set_option linter.unusedVariables false
set_option linter.unusedSimpArgs false
/-! ### diff3_Chunks: function 10 -/
/-! ### a walk that was made for a function's own frame serves in a round -/
theorem rowsIn_wide {l n : Nat} {P : Program} {row : String} {args : Array Value} {w : World} {R : Value → World → Prop} (h : Rows P row args w R) : RowsIn (Fence.wide.inRound l) n P row args w R := fun c cs _ => by
 obtain ⟨v, w', r, s⟩ := h c cs
 exact ⟨v, w', r, (stepsIn_wide (P := P)).2 s⟩
theorem round_op {l n : Nat} {P : Program} {Q : Exit → Act → World → Prop} {K : Act → World → Prop} {a : Act} {w : World} {o : Oper} (hd : ∀ c, o.op ≠ .defer c) (h : o.wp P a w K Q) : o.wpIn (Fence.wide.inRound l) n P a w K Q := by
 refine ⟨fun _ _ => trivial, ?_⟩
 rw [Fence.inRound_round, Oper.semAt_some l a.eval o hd]
 unfold Oper.wp at h
 generalize (execOp a.eval o).run P w = r at h
 cases r with
 | ok x w' =>
  cases x <;> simp only [Oper.upon] at h <;> simp only [Oper.uponIn] <;>
   first
    | exact h.elim
    | exact ⟨fun h' => (nomatch h'), CallsIn.mono ((callsIn_wide.2 h).inRound l) (fun e w'' he => by cases e <;> exact he)⟩
    | exact ⟨fun h' => (nomatch h'), rowsIn_wide h⟩
    | exact h
 | halt x w' => cases x <;> simp only [Oper.upon] at h <;> simp only [Oper.uponIn] <;> first | exact h | exact h.elim
theorem round_any {l n : Nat} {P : Program} {md : Region.Mode} {ops : Array Oper} {Q : Exit → Act → World → Prop} (hQ : ¬ LetsOut Q) (hd : ∀ (i : Nat) (o : Oper), ops[i]? = some o → ∀ c, o.op ≠ .defer c) : ∀ (fuel : Nat) (listed : Array Bool) (a : Act) (w : World), wpAny P md ops Q fuel listed a w → wpAnyIn (Fence.wide.inRound l) n P md ops Q fuel listed a w
 | 0, _, _, _, h => h
 | fuel + 1, listed, a, w, h => by
  have ih := round_any (l := l) (n := n) (P := P) (md := md) (ops := ops) hQ hd fuel
  refine ⟨h.1, fun i hi => ?_⟩
  have h2 := h.2 i hi
  unfold wpOp at h2
  unfold wpOpIn
  cases ho : ops[i]? with
  | none => rw [ho] at h2; exact ih _ _ _ h2
  | some o =>
   rw [ho] at h2
   simp only at h2 ⊢
   split
   ·rename_i hw
    rw [if_pos hw] at h2
    rcases h2 with h2 | h2
    ·exact Oper.wpIn_mono (fun a' w' h' => ih _ _ _ h') (round_op (hd i o ho) h2)
    ·exact absurd h2.2 hQ
   ·rename_i hw
    rw [if_neg hw] at h2
    exact ⟨fun _ _ => trivial, ih _ _ _ h2⟩
/-! ### a range over an iterator that keeps cells of its own, all of one type T -/
section
variable {α : Type} {P : Program}
def SeqOwn (T : TypeId) (P : Program) (g : Nat) (lb : Array Value) (encs : α → Array Value) (Kp : World → World → Prop) (S Sp : List α → Prop) (w : World) : Prop :=
 ∀ (l : Nat) (J Jx : List α → World → Prop) (W : World), Below w.heap.size w W → (∀ W', Below W.heap.size W W' → J [] W') →
  (∀ pre A A', J pre A → Below A.heap.size A A' → J pre A') →
  (∀ pre A b cells i v, W.heap.size ≤ b → J pre A → A.heap[b]? = some (.cells cells T (0, 0)) → J pre (World.setCell A ⟨b, i, none⟩ v)) →
  (∀ pre x W1, J pre W1 → Sp (pre ++ [x]) → YieldAt Fence.wide 3 P l (encs x) W1 fun e W' =>
   (e = .returned (.bool true) ∧ J (pre ++ [x]) W' ∧ Kp W1 W') ∨ (e = .returned (.bool false) ∧ Jx (pre ++ [x]) W')) →
  CallsIn Fence.wide 4 P g (#[.func (.yield l) #[] #[]] ++ lb) W fun e W' => (∃ v, e = .returned v) ∧ ((∃ xs, S xs ∧ J xs W') ∨ (∃ pre, Sp pre ∧ Jx pre W'))
theorem range_own {T : TypeId} {g : Operand} {ps : Array Tmp} {assign body : Code} {Q : Exit → Act → World → Prop} {a : Act} {w : World} {gf : Nat} {lb : Array Value} (hg : a.eval g = .func (.func gf) #[] lb)
  (eg : ∀ args w, (callFunc gf args).run P w = .ok (.enter gf args) w) {encs : α → Array Value} {Kp : World → World → Prop} {S Sp : List α → Prop} (hseq : SeqOwn T P gf lb encs Kp S Sp w)
  (hKt : ∀ {A B C : World}, Kp A B → Kp B C → Kp A C) (hKb : ∀ (W : World) (l : Nat) (o o' : Obj), w.heap.size ≤ l → W.heap[l]? = some o → o.isCells = false → o.isWalk = false → Kp W (W.putObj l o')) (hps : ∀ x, (encs x).size = ps.size)
  (I : List α → World → Prop) (h0 : ∀ W', Below w.heap.size w W' → I [] W') (hIb : ∀ pre A A', I pre A → Below A.heap.size A A' → I pre A')
  (hIs : ∀ pre A b cells i v, w.heap.size ≤ b → I pre A → A.heap[b]? = some (.cells cells T (0, 0)) → I pre (World.setCell A ⟨b, i, none⟩ v))
  (hIp : ∀ pre A l o o', I pre A → w.heap.size ≤ l → A.heap[l]? = some o → o.isCells = false → I pre (World.putObj A l o'))
  (Ax : α → Act → World → Prop) (hAp : ∀ x a' A l o o', Ax x a' A → w.heap.size ≤ l → A.heap[l]? = some o → o.isCells = false → Ax x a' (World.putObj A l o'))
  (hassign : ∀ (l : Nat) (x : α) (pre : List α) (W : World) (K : Act → World → Prop), I pre W → (∀ a' W', Ax x a' W' → KeepsOthers W W' → Kp W W' → I pre W' → K a' W') →
   assign.wpIn (Fence.wide.inRound l) 3 P (Exit.then K (fun _ _ _ => False)) { tmps := (ps.zip (encs x)).foldl (fun t (p, v) => t.setIfInBounds p v) a.tmps, defers := [] } W)
  (hbody : ∀ (l : Nat) (pre : List α) (x : α) (a' : Act) (W : World), I pre W → Ax x a' W → Sp (pre ++ [x]) → body.wpIn (Fence.wide.inRound l) 3 P (Exit.then (fun _ W' => KeepsOthers W W' ∧ Kp W W' ∧ I (pre ++ [x]) W') (fun _ _ _ => False)) a' W)
  (hdone : ∀ (D : Nat) (xs : List α) (W : World), w.heap.size ≤ D → S xs → I xs W → W.heap[D]? = some (.deferred (some [])) → Q .normal { a with defers := { target := .collected D, args := #[] } :: a.defers } W) :
  (Code.rangeFunc g ps assign body).wpIn Fence.wide 5 P Q a w := by
 refine wpIn_rangeFunc ?_
 intro fn hfn
 obtain ⟨rec, hrec⟩ : ∃ rec : LoopState → Option Code → Loop, rec = fun st pe => { state := st, pending := pe, fn, tmps := a.tmps, params := ps, assign, body, defers := w.heap.size } := ⟨_, rfl⟩
 obtain ⟨W1, hW1⟩ : ∃ W1, (w.alloc (.deferred (some []))).alloc (.loop (rec .ready none)) = W1 := ⟨_, rfl⟩
 have s1 : W1.heap.size = w.heap.size + 2 := by rw [← hW1]; simp
 have hL1 : W1.heap[w.heap.size + 1]? = some (.loop (rec .ready none)) := by
  rw [← hW1]; have := World.alloc_heap_new (w.alloc (.deferred (some []))) (.loop (rec .ready none)); rwa [World.size_alloc] at this
 have hK1 : W1.heap[w.heap.size]? = some (.deferred (some [])) := by
  rw [← hW1]; exact (Below.heap_alloc _ _ _ (by simp)).trans (World.alloc_heap_new w _)
 have hB1 : Below w.heap.size w W1 := by rw [← hW1]; exact ((Below.refl _ w).alloc (Nat.le_refl _) _).alloc (by simp) _
 refine ⟨w.heap.size + 1, [{ target := .collected w.heap.size, args := #[] }], W1, { target := .fn (.func gf) lb, args := #[.func (.yield (w.heap.size + 1)) #[] #[]] }, W1, gf,
  #[.func (.yield (w.heap.size + 1)) #[] #[]] ++ lb, W1, ?_, ?_, fun _ _ => trivial, ?_, fun h => (nomatch h), ?_⟩
 ·rw [← hW1, hrec]; exact run_enterLoop_outer _ _ _ _ _
 ·simp only [resolve, hg]
  simp [go_sem]
 ·simp [invoke, go_sem, eg]
 have kept : ∀ {A : World} {b : Nat} {cells : Array Value} {i : Nat} {v : Value} {k : Nat} {o : Obj}, A.heap[k]? = some o → o.isCells = false → (A.setCell ⟨b, i, none⟩ v).heap[k]? = some o := fun hk ho => (KeepsOthers.setCell _ _ _).same _ _ hk ho
 refine (hseq (w.heap.size + 1)
  (fun pre W => I pre W ∧ W.heap[w.heap.size + 1]? = some (.loop (rec .ready none)) ∧ W.heap[w.heap.size]? = some (.deferred (some [])))
  (fun _ _ => False) W1 hB1
  (fun W' hb => ⟨h0 W' (hB1.trans (hb.mono (by omega))), (hb.block _ (by omega)).trans hL1, (hb.block _ (by omega)).trans hK1⟩)
  (fun pre A A' h hb => ⟨hIb pre A A' h.1 hb, (hb.block _ (Array.getElem?_eq_some_iff.1 h.2.1).1).trans h.2.1, (hb.block _ (Array.getElem?_eq_some_iff.1 h.2.2).1).trans h.2.2⟩)
  (fun pre A b cells i v hb0 h hb => ⟨hIs pre A b cells i v (by omega) h.1 hb, (KeepsOthers.setCell _ _ _).same _ _ h.2.1 rfl, (KeepsOthers.setCell _ _ _).same _ _ h.2.2 rfl⟩)
  ?_).mono ?_
 ·rintro pre x W ⟨hi, hl, hk⟩ hlen
  have hy := run_yield (P := P) (args := encs x) hl (by rw [hrec]; exact hps x)
  rw [hrec] at hy
  refine ⟨fn, _, assign, body, hy, roundIn_of_wpIn hfn (hassign _ x pre W _ hi ?_)⟩
  intro a' Wa hAx hka hkpa hia
  have hla := hka.same _ _ hl rfl
  have hkk := hka.same _ _ hk rfl
  refine ⟨_, run_beginRound hla (by rw [hrec]), ?_⟩
  have hlt : w.heap.size + 1 < Wa.heap.size := (Array.getElem?_eq_some_iff.1 hla).1
  have hl2 : (Wa.putObj (w.heap.size + 1) (.loop { rec .ready none with state := .busy })).heap[w.heap.size + 1]? = some (.loop { rec .ready none with state := .busy }) := World.putObj_heap_same hlt
  have hk2 : (Wa.putObj (w.heap.size + 1) (.loop { rec .ready none with state := .busy })).heap[w.heap.size]? = some (.deferred (some [])) := (World.putObj_heap_other (by omega)).trans hkk
  refine wpIn_mono (hbody _ pre x a' _ (hIp pre Wa _ _ _ hia (by omega) hla rfl) (hAp x a' Wa _ _ _ hAx (by omega) hla rfl) hlen) ?_
  rintro e a3 W3 hp
  cases e with
  | normal =>
   obtain ⟨hk3, hkp3, hi3⟩ := hp
   have hl3 := hk3.same _ _ hl2 rfl
   have hd3 := hk3.same _ _ hk2 rfl
   have hr := run_endRound (P := P) none hl3
   rw [hrec] at hr
   refine ⟨_, _, hr, .inl ⟨rfl, ⟨hIp _ W3 _ _ _ hi3 (by omega) hl3 rfl, ?_, (World.putObj_heap_other (by omega)).trans hd3⟩, hKt hkpa (hKt (hKb _ _ _ _ (by omega) hla rfl rfl) (hKt hkp3 (hKb _ _ _ _ (by omega) hl3 rfl rfl)))⟩⟩
   rw [World.putObj_heap_same (Array.getElem?_eq_some_iff.1 hl3).1, hrec]; rfl
  | ret => exact hp.elim
  | exit id => exact hp.elim
  | goto t => exact hp.elim
  | panic ch => exact hp.elim
  | outgrown => exact hp.elim
 ·rintro e W2 ⟨⟨v, rfl⟩, (⟨xs, hS, hi, hl, hk⟩ | ⟨pre, hSp, hf⟩)⟩
  ·exact ⟨none, _, by have := run_endLoop (P := P) hl (by rw [hrec]; simp); rw [hrec] at this; exact this, hdone _ xs _ (Nat.le_refl _) hS (hIp xs W2 _ _ _ hi (by omega) hl rfl) ((World.putObj_heap_other (by omega)).trans hk)⟩
  ·exact hf.elim
end
def diff3_Chunks.stab (ma mb : List Int) (o a b lo : Nat) : Nat → Nat → Nat
 | 0, n => n
 | d + 1, n => if ma.getD (o + n) 0 = ((a + n : Nat) : Int) ∧ mb.getD (o + n) 0 = ((b + n : Nat) : Int) then diff3_Chunks.stab ma mb o a b lo d (n + 1) else n
def diff3_Chunks.Ends (W : World) (B : Nat) (o a b : Nat) : Prop := W.cell? ⟨B, 0, none⟩ = some (.int .i64 (o : Int)) ∧ W.cell? ⟨B, 1, none⟩ = some (.int .i64 (a : Int)) ∧ W.cell? ⟨B, 2, none⟩ = some (.int .i64 (b : Int))
set_option maxHeartbeats 4000000 in
set_option maxRecDepth 100000 in
theorem diff3_Chunks.stable (Bat Bl Bma Bmb : Nat) (o a b lo la lb : Nat) (ma mb : List Int) (Am Ab : Option Addr) (cm cb : Nat) (W : World) (hat : diff3_Chunks.Ends W Bat o a b) (hl : diff3_Chunks.Ends W Bl lo la lb)
  (hma : W.cell? ⟨Bma, 0, none⟩ = some (.slice Am ma.length cm)) (hmb : W.cell? ⟨Bmb, 0, none⟩ = some (.slice Ab mb.length cb)) (hra : Kd.C (Kd.int .i64) W Am ma.length ma) (hrb : Kd.C (Kd.int .i64) W Ab mb.length mb)
  (lm : ma.length = lo) (lb' : mb.length = lo) (ho : o ≤ lo) (hs : lo ≤ 1000000) (ha : a ≤ 1000000) (hb : b ≤ 1000000) :
  Calls Try.prog 35 #[.pointer (some ⟨Bat, 0, none⟩), .pointer (some ⟨Bl, 0, none⟩), .pointer (some ⟨Bma, 0, none⟩), .pointer (some ⟨Bmb, 0, none⟩)] W fun e w' => e = .returned (.int .i64 (diff3_Chunks.stab ma mb o a b lo (lo - o) 0 : Nat)) ∧ ∃ m, w' = W.drewN m := by
 obtain ⟨h0, h1, h2⟩ := hat
 obtain ⟨g0, g1, g2⟩ := hl
 go_enter Try.func35, Try.ntmps35
 go_wp2
 go_loopw [5] (fun p wr => ∃ n : Nat, p = .int .i64 (n : Int) ∧ o + n ≤ lo ∧ diff3_Chunks.stab ma mb o a b lo (lo - o) 0 = diff3_Chunks.stab ma mb o a b lo (lo - (o + n)) n ∧ ∃ m, wr = W.drewN m) (fun p _ => lo - (Lib.intOf p).toNat)
 case atStart => exact ⟨0, rfl, by omega, rfl, 0, rfl⟩
 case round =>
  obtain ⟨n, rfl, hn, hx, m, rfl⟩ := hrel
  have hX := Lib.hid hx
  clear hx
  by_cases hlt : o + n < lo
  ·have hlt' : (o : Int) + (n : Int) < (lo : Int) := by omega
   obtain ⟨ad, e, hm1⟩ := Kd.at_int hra ((o : Int) + (n : Int)) (by omega) (by omega)
   obtain ⟨bd, e', hm2⟩ := Kd.at_int hrb ((o : Int) + (n : Int)) (by omega) (by omega)
   cases e; cases e'
   obtain ⟨j, hj⟩ : ∃ j : Nat, o + n = j := ⟨_, rfl⟩
   have hj' : (o : Int) + (n : Int) = (j : Int) := by omega
   rw [hj'] at hm1 hm2 hlt'
   simp only [Int.toNat_natCast] at hm1 hm2
   obtain ⟨x, hx1⟩ : ∃ x, rd ma (j : Int) = x := ⟨_, rfl⟩
   obtain ⟨y, hy1⟩ : ∃ y, rd mb (j : Int) = y := ⟨_, rfl⟩
   rw [hx1] at hm1
   rw [hy1] at hm2
   have hjl : j < lo := by omega
   have hst : diff3_Chunks.stab ma mb o a b lo (lo - (o + n)) n = if ma.getD (o + n) 0 = ((a + n : Nat) : Int) ∧ mb.getD (o + n) 0 = ((b + n : Nat) : Int) then diff3_Chunks.stab ma mb o a b lo (lo - (o + (n + 1))) (n + 1) else n := by
    rw [show lo - (o + n) = (lo - (o + (n + 1))) + 1 by omega, diff3_Chunks.stab]
   have hgx : ma.getD (o + n) 0 = x := by rw [hj, ← hx1]; rfl
   have hgy : mb.getD (o + n) 0 = y := by rw [hj, ← hy1]; rfl
   rw [hgx, hgy] at hst
   have HST := Lib.hid hst
   clear hst hgx hgy
   have HX1 := Lib.hid hx1
   have HY1 := Lib.hid hy1
   have HJ := Lib.hid hj
   clear hx1 hy1 hj hra hrb
   have hn6 : n ≤ 1000000 := by omega
   by_cases c1 : x = (a : Int) + (n : Int)
   ·have c1b : (x == (a : Int) + (n : Int)) = true := by simpa using c1
    by_cases c2 : y = (b : Int) + (n : Int)
    ·have c2b : (y == (b : Int) + (n : Int)) = true := by simpa using c2
     have C1 := Lib.hid c1
     have C2 := Lib.hid c2
     clear c1 c2
     go_wp2
     go_quiet (fail)
     go_wp2
     refine ⟨⟨n + 1, by simp, by have := HJ.out; omega, ?_, m + nq, rfl⟩, by simp [Lib.intOf]; have := HJ.out; omega⟩
     rw [hX.out, HST.out, if_pos ⟨by rw [C1.out]; simp, by rw [C2.out]; simp⟩]
    ·have c2b : (y == (b : Int) + (n : Int)) = false := by simpa using c2
     have C1 := Lib.hid c1
     have C2 := Lib.hid c2
     clear c1 c2
     go_wp2
     go_quiet (fail)
     go_wp2
     go_ret
     refine ⟨?_, m + nq, by rw [World.drewN_drewN]⟩
     rw [hX.out, HST.out, if_neg (fun h => C2.out (by rw [h.2]; simp))]; rfl
   ·have c1b : (x == (a : Int) + (n : Int)) = false := by simpa using c1
    have C1 := Lib.hid c1
    clear c1
    go_wp2
    go_quiet (fail)
    go_wp2
    go_ret
    refine ⟨?_, m + nq, by rw [World.drewN_drewN]⟩
    rw [hX.out, HST.out, if_neg (fun h => C1.out (by rw [h.1]; simp))]; rfl
  ·have hlo : lo - (o + n) = 0 := by omega
   have hst : diff3_Chunks.stab ma mb o a b lo (lo - (o + n)) n = n := by rw [hlo, diff3_Chunks.stab]
   have HST := Lib.hid hst
   have hn6 : n ≤ 1000000 := by omega
   have hjl : (o : Int) + (n : Int) = (lo : Int) := by omega
   clear hst hlo hra hrb
   go_wp2
   go_quiet (fail)
   go_wp2
   go_ret
   refine ⟨?_, m + nq, by rw [World.drewN_drewN]⟩
   rw [hX.out, HST.out]; rfl
theorem set_at {W : World} {B i : Nat} {cells : Array Value} {t : TypeId} (v : Value) (h : W.heap[B]? = some (.cells cells t (0, 0))) : (W.setCell ⟨B, i, none⟩ v).heap[B]? = some (.cells (cells.setIfInBounds i v) t (0, 0)) := by
 obtain ⟨hlt, hk⟩ := Array.getElem?_eq_some_iff.1 h
 show (W.heap.modify B _)[B]? = _
 rw [Array.getElem?_eq_getElem (by rw [Array.size_modify]; exact hlt), Array.getElem_modify_self, hk]; rfl
theorem put3 {Y : World} {B t : Nat} {p q r : Value} (x y z : Value) (h : Y.heap[B]? = some (.cells #[p, q, r] t (0, 0))) :
  (((Y.setCell ⟨B, 0, none⟩ x).setCell ⟨B, 1, none⟩ y).setCell ⟨B, 2, none⟩ z).heap[B]? = some (.cells #[x, y, z] t (0, 0)) := set_at z (set_at y (set_at x h))
def diff3_Chunks.nxt (ma mb : List Int) (lo la lb : Nat) : Nat → Nat → Int × Int × Int
 | 0, _ => ((lo : Int), (la : Int), (lb : Int))
 | d + 1, p => if 0 ≤ ma.getD p 0 ∧ 0 ≤ mb.getD p 0 then ((p : Int), ma.getD p 0, mb.getD p 0) else diff3_Chunks.nxt ma mb lo la lb d (p + 1)
set_option maxHeartbeats 4000000 in
set_option maxRecDepth 100000 in
theorem diff3_Chunks.next (Bat Bl Bma Bmb : Nat) (o a b lo la lb : Nat) (ma mb : List Int) (Am Ab : Option Addr) (cm cb : Nat) (W : World) (hat : diff3_Chunks.Ends W Bat o a b) (hl : diff3_Chunks.Ends W Bl lo la lb)
  (hma : W.cell? ⟨Bma, 0, none⟩ = some (.slice Am ma.length cm)) (hmb : W.cell? ⟨Bmb, 0, none⟩ = some (.slice Ab mb.length cb)) (hra : Kd.C (Kd.int .i64) W Am ma.length ma) (hrb : Kd.C (Kd.int .i64) W Ab mb.length mb)
  (lm : ma.length = lo) (lb' : mb.length = lo) (ho : o ≤ lo) (hs : lo ≤ 1000000) (T : Int × Int × Int) (hT : diff3_Chunks.nxt ma mb lo la lb (lo - o) o = T) :
  Calls Try.prog 36 #[.pointer (some ⟨Bat, 0, none⟩), .pointer (some ⟨Bl, 0, none⟩), .pointer (some ⟨Bma, 0, none⟩), .pointer (some ⟨Bmb, 0, none⟩)] W fun e w' => e = .returned (.agg #[.int .i64 T.1, .int .i64 T.2.1, .int .i64 T.2.2]) ∧ Below W.heap.size W w' := by
 obtain ⟨h0, h1, h2⟩ := hat
 obtain ⟨g0, g1, g2⟩ := hl
 obtain ⟨Y, hY⟩ : ∃ Y, W.alloc (.cells #[.int .i64 0, .int .i64 0, .int .i64 0] 46) = Y := ⟨_, rfl⟩
 have hB : Below W.heap.size W Y := by rw [← hY]; exact (Below.refl _ W).alloc (Nat.le_refl _) _
 have c0 := Kd.cell_heap hB.block h0
 have d0 := Kd.cell_heap hB.block g0
 have d1 := Kd.cell_heap hB.block g1
 have d2 := Kd.cell_heap hB.block g2
 have e0 := Kd.cell_heap hB.block hma
 have e1 := Kd.cell_heap hB.block hmb
 have hn : Y.heap[W.heap.size]? = some (.cells #[.int .i64 0, .int .i64 0, .int .i64 0] 46) := by rw [← hY]; exact World.alloc_heap_new W _
 have ka := Kd.C_alloc hra (.cells #[.int .i64 0, .int .i64 0, .int .i64 0] 46)
 have kb := Kd.C_alloc hrb (.cells #[.int .i64 0, .int .i64 0, .int .i64 0] 46)
 rw [hY] at ka kb
 have r0 : Y.cell? ⟨W.heap.size, 0, none⟩ = some (.int .i64 0) := by unfold World.cell?; rw [hn]; rfl
 have r1 : Y.cell? ⟨W.heap.size, 1, none⟩ = some (.int .i64 0) := by unfold World.cell?; rw [hn]; rfl
 have r2 : Y.cell? ⟨W.heap.size, 2, none⟩ = some (.int .i64 0) := by unfold World.cell?; rw [hn]; rfl
 have f0 : Y.frozen? ⟨W.heap.size, 0, none⟩ = false := by simp [World.frozen?, hn]
 have f1 : Y.frozen? ⟨W.heap.size, 1, none⟩ = false := by simp [World.frozen?, hn]
 have HN := Lib.hid hn
 have f2 : Y.frozen? ⟨W.heap.size, 2, none⟩ = false := by simp [World.frozen?, hn]
 clear hra hrb hn h0 h1 h2 g0 g1 g2 hma hmb
 go_enter Try.func36, Try.ntmps36
 go_wp2
 clear hY
 go_loopw [5] (fun p wr => ∃ (q m : Nat), p = .int .i64 (q : Int) ∧ q ≤ lo ∧ diff3_Chunks.nxt ma mb lo la lb (lo - q) q = T ∧ wr = Y.drewN m) (fun p _ => lo - (Lib.intOf p).toNat)
 case atStart => exact ⟨o, 0, rfl, ho, hT, rfl⟩
 case round =>
  clear hT
  obtain ⟨q, m, rfl, hq, hx, rfl⟩ := hrel
  have hX := Lib.hid hx
  clear hx
  by_cases hlt : q < lo
  ·obtain ⟨ad, e, hm1⟩ := Kd.at_int ka (q : Int) (by omega) (by omega)
   obtain ⟨bd, e', hm2⟩ := Kd.at_int kb (q : Int) (by omega) (by omega)
   cases e; cases e'
   simp only [Int.toNat_natCast] at hm1 hm2
   obtain ⟨x, hx1⟩ : ∃ x, rd ma (q : Int) = x := ⟨_, rfl⟩
   obtain ⟨y, hy1⟩ : ∃ y, rd mb (q : Int) = y := ⟨_, rfl⟩
   rw [hx1] at hm1
   rw [hy1] at hm2
   have hst : diff3_Chunks.nxt ma mb lo la lb (lo - q) q = if 0 ≤ ma.getD q 0 ∧ 0 ≤ mb.getD q 0 then ((q : Int), ma.getD q 0, mb.getD q 0) else diff3_Chunks.nxt ma mb lo la lb (lo - (q + 1)) (q + 1) := by
    rw [show lo - q = (lo - (q + 1)) + 1 by omega, diff3_Chunks.nxt]
   have hgx : ma.getD q 0 = x := hx1
   have hgy : mb.getD q 0 = y := hy1
   rw [hgx, hgy] at hst
   have HST := Lib.hid hst
   clear hst hgx hgy hx1 hy1 ka kb
   by_cases c1 : 0 ≤ x
   ·by_cases c2 : 0 ≤ y
    ·have C1 := Lib.hid c1
     have C2 := Lib.hid c2
     go_wp2
     go_region
     go_wp2
     have hp := put3 (.int .i64 (q : Int)) (.int .i64 x) (.int .i64 y) (show (Y.drewN (m + 1)).heap[W.heap.size]? = _ from HN.out)
     have p0 : ((((Y.drewN (m + 1)).setCell ⟨W.heap.size, 0, none⟩ (.int .i64 (q : Int))).setCell ⟨W.heap.size, 1, none⟩ (.int .i64 x)).setCell ⟨W.heap.size, 2, none⟩ (.int .i64 y)).cell? ⟨W.heap.size, 0, none⟩ = some (.int .i64 (q : Int)) := by unfold World.cell?; rw [hp]; rfl
     have p1 : ((((Y.drewN (m + 1)).setCell ⟨W.heap.size, 0, none⟩ (.int .i64 (q : Int))).setCell ⟨W.heap.size, 1, none⟩ (.int .i64 x)).setCell ⟨W.heap.size, 2, none⟩ (.int .i64 y)).cell? ⟨W.heap.size, 1, none⟩ = some (.int .i64 x) := by unfold World.cell?; rw [hp]; rfl
     have p2 : ((((Y.drewN (m + 1)).setCell ⟨W.heap.size, 0, none⟩ (.int .i64 (q : Int))).setCell ⟨W.heap.size, 1, none⟩ (.int .i64 x)).setCell ⟨W.heap.size, 2, none⟩ (.int .i64 y)).cell? ⟨W.heap.size, 2, none⟩ = some (.int .i64 y) := by unfold World.cell?; rw [hp]; rfl
     refine bodyPost_ret (v := .agg #[.int .i64 (q : Int), .int .i64 x, .int .i64 y]) (by simp [results, Try.f36, go_sem, p0, p1, p2]) rfl ?_
     refine ⟨?_, ?_⟩
     ·rw [← hX.out, HST.out, if_pos ⟨c1, c2⟩]
     ·exact hB.trans ((((Drawn0.below ⟨⟨(m + 1), rfl⟩⟩).mono hB.size).setCell (p := ⟨W.heap.size, 0, none⟩) (Nat.le_refl _) _).setCell (p := ⟨W.heap.size, 1, none⟩) (Nat.le_refl _) _ |>.setCell (p := ⟨W.heap.size, 2, none⟩) (Nat.le_refl _) _)
    ·have C1 := Lib.hid c1
     have C2 := Lib.hid c2
     go_wp2
     exact ⟨⟨q + 1, m, by simp, by omega, by rw [← hX.out, HST.out, if_neg (fun h => C2.out h.2)], rfl⟩, by simp [Lib.intOf]; omega⟩
   ·have C1 := Lib.hid c1
    go_wp2
    exact ⟨⟨q + 1, m, by simp, by omega, by rw [← hX.out, HST.out, if_neg (fun h => C1.out h.1)], rfl⟩, by simp [Lib.intOf]; omega⟩
  ·obtain rfl : q = lo := by omega
   go_wp2
   have hp := put3 (.int .i64 (q : Int)) (.int .i64 (la : Int)) (.int .i64 (lb : Int)) (show (Y.drewN m).heap[W.heap.size]? = _ from HN.out)
   have p0 : ((((Y.drewN m).setCell ⟨W.heap.size, 0, none⟩ (.int .i64 (q : Int))).setCell ⟨W.heap.size, 1, none⟩ (.int .i64 (la : Int))).setCell ⟨W.heap.size, 2, none⟩ (.int .i64 (lb : Int))).cell? ⟨W.heap.size, 0, none⟩ = some (.int .i64 (q : Int)) := by unfold World.cell?; rw [hp]; rfl
   have p1 : ((((Y.drewN m).setCell ⟨W.heap.size, 0, none⟩ (.int .i64 (q : Int))).setCell ⟨W.heap.size, 1, none⟩ (.int .i64 (la : Int))).setCell ⟨W.heap.size, 2, none⟩ (.int .i64 (lb : Int))).cell? ⟨W.heap.size, 1, none⟩ = some (.int .i64 (la : Int)) := by unfold World.cell?; rw [hp]; rfl
   have p2 : ((((Y.drewN m).setCell ⟨W.heap.size, 0, none⟩ (.int .i64 (q : Int))).setCell ⟨W.heap.size, 1, none⟩ (.int .i64 (la : Int))).setCell ⟨W.heap.size, 2, none⟩ (.int .i64 (lb : Int))).cell? ⟨W.heap.size, 2, none⟩ = some (.int .i64 (lb : Int)) := by unfold World.cell?; rw [hp]; rfl
   refine bodyPost_ret (v := .agg #[.int .i64 (q : Int), .int .i64 (la : Int), .int .i64 (lb : Int)]) (by simp [results, Try.f36, go_sem, p0, p1, p2]) rfl ?_
   refine ⟨?_, ?_⟩
   ·rw [← hX.out, Nat.sub_self, diff3_Chunks.nxt]
   ·exact hB.trans ((((Drawn0.below ⟨⟨m, rfl⟩⟩).mono hB.size).setCell (p := ⟨W.heap.size, 0, none⟩) (Nat.le_refl _) _).setCell (p := ⟨W.heap.size, 1, none⟩) (Nat.le_refl _) _ |>.setCell (p := ⟨W.heap.size, 2, none⟩) (Nat.le_refl _) _)
/-! what the iterator keeps: a row of numbers of its own, boxes, three numbers -/
def diff3_Chunks.Rw (W : World) (A : Option Addr) (n c : Nat) (l : List Int) : Prop := Kd.R (Kd.int .i64) 3 W 0 (fun k => ∃ cs, W.heap[k]? = some (.cells cs 3 (0, 0))) (.slice A n c) l
theorem diff3_Chunks.Rw_of {W : World} {b : Nat} {ok : Nat → Prop} {A : Option Addr} {n c : Nat} {l : List Int} (h : Kd.R (Kd.int .i64) 3 W b ok (.slice A n c) l) : diff3_Chunks.Rw W A n c l :=
 Kd.R_lower (Kd.R_mono (Kd.R_bound h) (fun k hk => by
  obtain ⟨_, _, _, q, hq, hc⟩ := hk
  have : q = 3 := by
   rcases List.mem_cons.1 hq with rfl | h'
   ·rfl
   ·exact absurd h' (by simp [Kd.int, Kd.scalar])
  subst this; exact hc)) (Nat.zero_le _)
theorem diff3_Chunks.Rw_step {W W' : World} {A : Option Addr} {n c : Nat} {l : List Int} (h : diff3_Chunks.Rw W A n c l) (hm : ∀ (k : Nat) (cs : Array Value), W.heap[k]? = some (.cells cs 3 (0, 0)) → W'.heap[k]? = W.heap[k]?) : diff3_Chunks.Rw W' A n c l :=
 Kd.R_mono (Kd.R_move h (fun k hk => by obtain ⟨cs, hc⟩ := hk; exact hm k cs hc)) (fun k hk => by obtain ⟨cs, hc⟩ := hk; exact ⟨cs, (hm k cs hc).trans hc⟩)
theorem diff3_Chunks.Rw_below {W W' : World} {A : Option Addr} {n c : Nat} {l : List Int} (h : diff3_Chunks.Rw W A n c l) (hb : Below W.heap.size W W') : diff3_Chunks.Rw W' A n c l :=
 diff3_Chunks.Rw_step h (fun k cs hc => hb.block k (Array.getElem?_eq_some_iff.1 hc).1)
theorem diff3_Chunks.Rw_set {W : World} {A : Option Addr} {n c : Nat} {l : List Int} (h : diff3_Chunks.Rw W A n c l) {B i : Nat} {cs : Array Value} {t : Nat} (hB : W.heap[B]? = some (.cells cs t (0, 0))) (ht : t ≠ 3) (v : Value) : diff3_Chunks.Rw (W.setCell ⟨B, i, none⟩ v) A n c l :=
 diff3_Chunks.Rw_step h (fun k cs' hc => Below.heap_setCell _ _ _ _ (by intro e; have e : k = B := e; rw [e, hB] at hc; cases hc; exact ht rfl))
theorem diff3_Chunks.Rw_C {W : World} {A : Option Addr} {n c : Nat} {l : List Int} (h : diff3_Chunks.Rw W A n c l) : n = l.length ∧ Kd.C (Kd.int .i64) W A l.length l := ⟨(Kd.R_reads' h).1, (Kd.R_reads' h).2.2⟩
theorem diff3_Chunks.Bx_below {W W' : World} {B t : Nat} {v : Value} (hb : Below W.heap.size W W') (h : Boxed W B t v) : Boxed W' B t v := (hb.block B h.lt).trans h
theorem diff3_Chunks.Bx_far {W : World} {B B' i t t' : Nat} {cs : Array Value} {v : Value} (h : Boxed W B t v) (h' : W.heap[B']? = some (.cells cs t' (0, 0))) (ht : t ≠ t') (u : Value) : Boxed (W.setCell ⟨B', i, none⟩ u) B t v :=
 (Below.heap_setCell _ _ _ _ (by intro e; have e : B = B' := e; rw [← e, show W.heap[B]? = _ from h] at h'; cases h'; exact ht rfl)).trans h
def diff3_Chunks.Tri (W : World) (B : Nat) (o a b : Int) : Prop := W.heap[B]? = some (.cells #[.int .i64 o, .int .i64 a, .int .i64 b] 46 (0, 0))
theorem diff3_Chunks.Tri_below {W W' : World} {B : Nat} {o a b : Int} (hb : Below W.heap.size W W') (h : diff3_Chunks.Tri W B o a b) : diff3_Chunks.Tri W' B o a b := (hb.block B (Array.getElem?_eq_some_iff.1 h).1).trans h
theorem diff3_Chunks.Tri.ends {W : World} {B o a b : Nat} (h : diff3_Chunks.Tri W B (o : Int) (a : Int) (b : Int)) : diff3_Chunks.Ends W B o a b := by
 unfold diff3_Chunks.Tri at h
 refine ⟨?_, ?_, ?_⟩ <;> · unfold World.cell?; rw [h]; rfl
theorem diff3_Chunks.Tri.cells {W : World} {B : Nat} {o a b : Int} (h : diff3_Chunks.Tri W B o a b) : W.cell? ⟨B, 0, none⟩ = some (.int .i64 o) ∧ W.cell? ⟨B, 1, none⟩ = some (.int .i64 a) ∧ W.cell? ⟨B, 2, none⟩ = some (.int .i64 b) := by
 unfold diff3_Chunks.Tri at h
 refine ⟨?_, ?_, ?_⟩ <;> · unfold World.cell?; rw [h]; rfl
theorem diff3_Chunks.Tri.frozen {W : World} {B : Nat} {o a b : Int} (h : diff3_Chunks.Tri W B o a b) : W.frozen? ⟨B, 0, none⟩ = false ∧ W.frozen? ⟨B, 1, none⟩ = false ∧ W.frozen? ⟨B, 2, none⟩ = false := by
 unfold diff3_Chunks.Tri at h
 refine ⟨?_, ?_, ?_⟩ <;> simp [World.frozen?, h]
def diff3_Chunks.Kp (A B : World) : Prop := ∀ (k : Nat) (cs : Array Value) (t : TypeId), (t = 46 ∨ t = 22 ∨ t = 3) → A.heap[k]? = some (.cells cs t (0, 0)) → B.heap[k]? = A.heap[k]?
theorem diff3_Chunks.Kp.tri {A B : World} (h : diff3_Chunks.Kp A B) {k : Nat} {o a b : Int} (ht : diff3_Chunks.Tri A k o a b) : diff3_Chunks.Tri B k o a b := (h _ _ _ (.inl rfl) ht).trans ht
theorem diff3_Chunks.Kp.box {A B : World} (h : diff3_Chunks.Kp A B) {k : Nat} {v : Value} (ht : Boxed A k 22 v) : Boxed B k 22 v := (h _ _ _ (.inr (.inl rfl)) ht).trans ht
theorem diff3_Chunks.Kp.rw {A B : World} (h : diff3_Chunks.Kp A B) {A' : Option Addr} {n c : Nat} {l : List Int} (ht : diff3_Chunks.Rw A A' n c l) : diff3_Chunks.Rw B A' n c l := diff3_Chunks.Rw_step ht (fun k cs hc => h _ _ _ (.inr (.inr rfl)) hc)
def diff3_Chunks.left (n : Nat) (B : Nat) (W : World) : Nat :=
 match W.cell? ⟨B, 0, none⟩, W.cell? ⟨B, 1, none⟩, W.cell? ⟨B, 2, none⟩ with
 | some (.int _ o), some (.int _ a), some (.int _ b) => n - (o.toNat + a.toNat + b.toNat)
 | _, _, _ => 0
theorem diff3_Chunks.store3 {W : World} {B : Nat} {p q r : Value} (h : W.heap[B]? = some (.cells #[p, q, r] 46 (0, 0))) (x y z : Int) {J : World → Prop}
  (hJs : ∀ (A : World) (cells : Array Value) (i : Nat) (v : Value), J A → A.heap[B]? = some (.cells cells 46 (0, 0)) → J (A.setCell ⟨B, i, none⟩ v)) (hJ : J W) :
  J (((W.setCell ⟨B, 0, none⟩ (.int .i64 x)).setCell ⟨B, 1, none⟩ (.int .i64 y)).setCell ⟨B, 2, none⟩ (.int .i64 z)) ∧ diff3_Chunks.Tri (((W.setCell ⟨B, 0, none⟩ (.int .i64 x)).setCell ⟨B, 1, none⟩ (.int .i64 y)).setCell ⟨B, 2, none⟩ (.int .i64 z)) B x y z ∧
   ∀ k, k ≠ B → (((W.setCell ⟨B, 0, none⟩ (.int .i64 x)).setCell ⟨B, 1, none⟩ (.int .i64 y)).setCell ⟨B, 2, none⟩ (.int .i64 z)).heap[k]? = W.heap[k]? := by
 have h1 := set_at (i := 0) (.int .i64 x) h
 have h2 := set_at (i := 1) (.int .i64 y) h1
 exact ⟨hJs _ _ _ _ (hJs _ _ _ _ (hJs _ _ _ _ hJ h) h1) h2, put3 _ _ _ h, fun k hk => (Below.heap_setCell _ _ _ _ hk).trans ((Below.heap_setCell _ _ _ _ hk).trans (Below.heap_setCell _ _ _ _ hk))⟩
theorem diff3_Chunks.Rw_ne {W W' : World} {B : Nat} {cs : Array Value} {A : Option Addr} {n c : Nat} {l : List Int} (hB : W.heap[B]? = some (.cells cs 46 (0, 0))) (hk : ∀ k, k ≠ B → W'.heap[k]? = W.heap[k]?) (h : diff3_Chunks.Rw W A n c l) : diff3_Chunks.Rw W' A n c l :=
 diff3_Chunks.Rw_step h (fun k cs' hc => hk k (by intro e; rw [e, hB] at hc; cases hc))
theorem diff3_Chunks.Bx_ne {W W' : World} {B B' : Nat} {cs : Array Value} {v : Value} (hB : W.heap[B]? = some (.cells cs 46 (0, 0))) (hk : ∀ k, k ≠ B → W'.heap[k]? = W.heap[k]?) (h : Boxed W B' 22 v) : Boxed W' B' 22 v :=
 (hk B' (by intro e; rw [← e, show W.heap[B']? = _ from h] at hB; cases hB)).trans h
theorem diff3_Chunks.left_lt {n B o a b : Nat} {x y z : Int} {W W' : World} (h : diff3_Chunks.Tri W B (o : Int) (a : Int) (b : Int)) (h' : diff3_Chunks.Tri W' B x y z) (h0 : (o : Int) ≤ x) (h1 : (a : Int) ≤ y) (h2 : (b : Int) ≤ z) (h3 : (o : Int) + a + b < x + y + z) (h4 : x + y + z ≤ n) : diff3_Chunks.left n B W' < diff3_Chunks.left n B W := by
 obtain ⟨c0, c1, c2⟩ := h.cells
 obtain ⟨d0, d1, d2⟩ := h'.cells
 unfold diff3_Chunks.left
 rw [c0, c1, c2, d0, d1, d2]
 simp only
 omega
theorem diff3_Chunks.tnn {o : Nat} {x : Int} (h : (o : Int) ≤ x) : (x.toNat : Int) = x := by omega
theorem diff3_Chunks.tle {x : Int} {lo : Nat} (h : x ≤ (lo : Int)) : x.toNat ≤ lo := by omega
theorem diff3_Chunks.sum3 {x y z : Int} {lo la lb : Nat} (h1 : x ≤ (lo : Int)) (h2 : y ≤ (la : Int)) (h3 : z ≤ (lb : Int)) : x + y + z ≤ ((lo + la + lb : Nat) : Int) := by omega
theorem diff3_Chunks.w2s {x y : Nat} {l : Nat} (h : (x : Int) + (y : Int) ≤ (l : Int)) (hl : l ≤ 1000000) : wrap64 ((x : Int) + (y : Int)) = (x : Int) + (y : Int) := by unfold wrap64; omega
abbrev diff3_Chunks.T3 := Int × Int × Int
def diff3_Chunks.e3 (t : diff3_Chunks.T3) : Value := .agg #[.int .i64 t.1, .int .i64 t.2.1, .int .i64 t.2.2]
def diff3_Chunks.to (ma mb : List Int) (lo la lb o a b : Nat) : diff3_Chunks.T3 :=
 if 0 < diff3_Chunks.stab ma mb o a b lo (lo - o) 0 then ((o : Int) + (diff3_Chunks.stab ma mb o a b lo (lo - o) 0 : Nat), (a : Int) + (diff3_Chunks.stab ma mb o a b lo (lo - o) 0 : Nat), (b : Int) + (diff3_Chunks.stab ma mb o a b lo (lo - o) 0 : Nat))
 else diff3_Chunks.nxt ma mb lo la lb (lo - o) o
def diff3_Chunks.chs (ma mb : List Int) (lo la lb : Nat) : Nat → Nat → Nat → Nat → Option (List (diff3_Chunks.T3 × diff3_Chunks.T3))
 | 0, _, _, _ => none
 | k + 1, o, a, b =>
  if o = lo ∧ a = la ∧ b = lb then some []
  else
   let t := diff3_Chunks.to ma mb lo la lb o a b
   if (o : Int) ≤ t.1 ∧ (a : Int) ≤ t.2.1 ∧ (b : Int) ≤ t.2.2 ∧ (o : Int) + a + b < t.1 + t.2.1 + t.2.2 ∧ t.1 ≤ lo ∧ t.2.1 ≤ la ∧ t.2.2 ≤ lb then
    (diff3_Chunks.chs ma mb lo la lb k t.1.toNat t.2.1.toNat t.2.2.toNat).map ((((o : Int), (a : Int), (b : Int)), t) :: ·)
   else none
theorem diff3_Chunks.belowTr {W W1 w' : World} (h : Below W1.heap.size W1 w') (k : Below W.heap.size W W1) : Below W.heap.size W w' := k.trans (h.mono k.size)
def diff3_Chunks.c01 (b : Bool) : Nat := if b then 0 else 1
theorem diff3_Chunks.c01_f : diff3_Chunks.c01 false = 1 := rfl
theorem diff3_Chunks.c01_t : diff3_Chunks.c01 true = 0 := rfl
theorem diff3_Chunks.anyIn_start {F : Fence} {n : Nat} {P : Program} {md : Region.Mode} {ops : Array Oper} {Q : Exit → Act → World → Prop} {fuel : Nat} {listed : Array Bool} {a : Act} {w : World}
  (h : ∀ (X : Nat → Array Bool → Act → World → Prop) (o : Array Oper), o = ops → X = wpAnyIn F n P md o Q → X fuel listed a w) : wpAnyIn F n P md ops Q fuel listed a w := h _ _ rfl rfl
theorem boxed_far {W : World} {B B' : Nat} {t : TypeId} {v : Value} (h : Boxed W B t v) (hne : B ≠ B') (u : Value) : Boxed (W.setCell ⟨B', 0, none⟩ u) B t v :=
 h.kept (grownBy_setCell' W B' u) (fun e => hne (by injection e))
set_option maxHeartbeats 8000000 in
set_option maxRecDepth 100000 in
theorem diff3_Chunks.run0 (l Bo Ba Bb : Nat) (lo la lb : Nat) (So Sa Sb : Option Addr) (co ca cb : Nat) (ma mb : List Int) (all : List (diff3_Chunks.T3 × diff3_Chunks.T3)) (kk : Nat) (hall : diff3_Chunks.chs ma mb lo la lb kk 0 0 0 = some all) (lma : ma.length = lo) (lmb : mb.length = lo) (hlo : lo ≤ 1000000) (hla : la ≤ 1000000) (hlb : lb ≤ 1000000) (W : World)
  (J Jx : List (diff3_Chunks.T3 × diff3_Chunks.T3) → World → Prop) (hJ0 : ∀ W', Below W.heap.size W W' → J [] W') (hJb : ∀ pre A A', J pre A → Below A.heap.size A A' → J pre A')
  (hJs : ∀ pre A b cells i v, W.heap.size ≤ b → J pre A → A.heap[b]? = some (.cells cells 46 (0, 0)) → J pre (World.setCell A ⟨b, i, none⟩ v))
  (hY : ∀ pre x W1, J pre W1 → pre ++ [x] <+: all → YieldAt Fence.wide 3 Try.prog l #[diff3_Chunks.e3 x.1, diff3_Chunks.e3 x.2] W1 fun e W' =>
   (e = .returned (.bool true) ∧ J (pre ++ [x]) W' ∧ diff3_Chunks.Kp W1 W') ∨ (e = .returned (.bool false) ∧ Jx (pre ++ [x]) W'))
  (hbo : Bo < W.heap.size) (hba : Ba < W.heap.size) (hbb : Bb < W.heap.size)
  (ho : W.cell? ⟨Bo, 0, none⟩ = some (.slice So lo co)) (ha : W.cell? ⟨Ba, 0, none⟩ = some (.slice Sa la ca)) (hb : W.cell? ⟨Bb, 0, none⟩ = some (.slice Sb lb cb))
  (hMa : ∀ W1, Below W.heap.size W W1 → CallsIn Fence.wide 3 Try.prog 34 #[.slice So lo co, .slice Sa la ca] W1 fun e w' => ∃ A' c', e = .returned (.slice A' lo c') ∧ diff3_Chunks.Rw w' A' lo c' ma ∧ Below W1.heap.size W1 w')
  (hMb : ∀ W1, Below W.heap.size W W1 → CallsIn Fence.wide 3 Try.prog 34 #[.slice So lo co, .slice Sb lb cb] W1 fun e w' => ∃ A' c', e = .returned (.slice A' lo c') ∧ diff3_Chunks.Rw w' A' lo c' mb ∧ Below W1.heap.size W1 w') :
  CallsIn Fence.wide 4 Try.prog 33 #[.func (.yield l) #[] #[], .pointer (some ⟨Bo, 0, none⟩), .pointer (some ⟨Ba, 0, none⟩), .pointer (some ⟨Bb, 0, none⟩)] W fun e W' => (∃ v, e = .returned v) ∧ ((∃ xs, xs = all ∧ J xs W') ∨ (∃ pre, pre <+: all ∧ Jx pre W')) := by
 refine callsIn_of_wp Try.func33 rfl trivial ?_ rfl
 simp only [Try.ntmps33, List.size_toArray, List.length_cons, List.length_nil, Nat.reduceAdd, Nat.reduceSub, Array.replicate_succ, Array.replicate_zero, List.push_toArray, List.append_toArray, List.nil_append, List.cons_append]
 gi_wp2
 rename_i K hK
 have hm : Try.prog.follows .mixedOrders = true := by kernel_rfl
 have key : ∀ (Bm Bn : Nat) (Am An : Option Addr) (cm cn : Nat) (W' : World) (x13 x14 x16 x17 : Value), Below W.heap.size W W' → Boxed W' Bm 22 (.slice Am lo cm) → Boxed W' Bn 22 (.slice An lo cn) → diff3_Chunks.Rw W' Am lo cm ma → diff3_Chunks.Rw W' An lo cn mb →
   K { tmps := #[Value.func (Fn.yield l) #[] #[], Value.pointer (some ⟨Bo, 0, none⟩), Value.pointer (some ⟨Ba, 0, none⟩), Value.pointer (some ⟨Bb, 0, none⟩), undef, .pointer (some ⟨Bm, 0, none⟩), .pointer (some ⟨Bn, 0, none⟩), undef, undef, undef, undef, undef, undef, x13, x14, .slice Am lo cm, x16, x17, .slice An lo cn, undef, undef, undef, undef, undef, undef, undef, undef, undef, undef, undef, undef, undef, undef, undef, undef, undef, undef, undef, undef, undef, undef, undef, undef, undef, undef, undef, undef, undef, undef, undef, undef, undef, undef, undef, undef, undef, undef], defers := [] } W' := by
  intro Bm Bn Am An cm cn W' x13 x14 x16 x17 hB hbm hbn hrm hrn
  refine hK _ _ ?_
  clear hK
  clear hMa hMb hm
  have ko := Kd.cell_heap hB.block ho
  have ka := Kd.cell_heap hB.block ha
  have kb := Kd.cell_heap hB.block hb
  have hs0 := hB.size
  clear ho ha hb
  have hbo : Bo < W'.heap.size := by omega
  have hba : Ba < W'.heap.size := by omega
  have hbb : Bb < W'.heap.size := by omega
  gi_wp2
  rename_i K2 hK2
  have key2 : ∀ (Bat Bl : Nat) (W2 : World) (x19 x20 x21 x22 x23 x24 x25 x26 : Value), Bat ≠ Bl → W.heap.size ≤ Bat → Below W.heap.size W W2 → Boxed W2 Bm 22 (.slice Am lo cm) → Boxed W2 Bn 22 (.slice An lo cn) → diff3_Chunks.Rw W2 Am lo cm ma → diff3_Chunks.Rw W2 An lo cn mb →
    diff3_Chunks.Tri W2 Bat 0 0 0 → diff3_Chunks.Tri W2 Bl lo la lb →
    K2 { tmps := #[Value.func (Fn.yield l) #[] #[], Value.pointer (some ⟨Bo, 0, none⟩), Value.pointer (some ⟨Ba, 0, none⟩), Value.pointer (some ⟨Bb, 0, none⟩), undef, Value.pointer (some ⟨Bm, 0, none⟩), Value.pointer (some ⟨Bn, 0, none⟩), Value.pointer (some ⟨Bat, 0, none⟩), Value.pointer (some ⟨Bl, 0, none⟩), undef, undef, undef, undef, x13, x14, .slice Am lo cm, x16, x17, .slice An lo cn, x19, x20, x21, x22, x23, x24, x25, x26, undef, undef, undef, undef, undef, undef, undef, undef, undef, undef, undef, undef, undef, undef, undef, undef, undef, undef, undef, undef, undef, undef, undef, undef, undef, undef, undef, undef, undef, undef], defers := [] } W2 := by
   clear ko ka kb hbm hbn hrm hrn hB hs0 hbo hba hbb
   clear hbo hba hbb
   intro Bat Bl W2 x19 x20 x21 x22 x23 x24 x25 x26 hne hge hB hbm hbn hrm hrn hat hl
   refine hK2 _ _ ?_
   clear hK2 K2 K W'
   gi_wp2
   gi_loopw [] (fun wr => ∃ (pre : List (diff3_Chunks.T3 × diff3_Chunks.T3)) (rest : List (diff3_Chunks.T3 × diff3_Chunks.T3)) (k o a b : Nat), all = pre ++ rest ∧ diff3_Chunks.chs ma mb lo la lb k o a b = some rest ∧ o ≤ lo ∧ a ≤ la ∧ b ≤ lb ∧
    diff3_Chunks.Tri wr Bat o a b ∧ diff3_Chunks.Tri wr Bl lo la lb ∧ Boxed wr Bm 22 (.slice Am lo cm) ∧ Boxed wr Bn 22 (.slice An lo cn) ∧ diff3_Chunks.Rw wr Am lo cm ma ∧ diff3_Chunks.Rw wr An lo cn mb ∧ J pre wr)
    (fun wr => diff3_Chunks.left (lo + la + lb) Bat wr)
   case atStart => exact ⟨[], all, kk, 0, 0, 0, rfl, hall, Nat.zero_le _, Nat.zero_le _, Nat.zero_le _, hat, hl, hbm, hbn, hrm, hrn, hJ0 _ hB⟩
   case round =>
    clear hat hl hbm hbn hrm hrn hB hJ0 hall
    clear W2
    obtain ⟨pre, rest, k, o, a, b, hx, hch, hoo, haa, hbb, hat, hl, hbm, hbn, hrm, hrn, hJ⟩ := hrel
    have HJs := Lib.hid hJs
    have HJb := Lib.hid hJb
    have HY := Lib.hid hY
    clear hJs hJb hY
    have hat0 := hat
    obtain ⟨a0, a1, a2⟩ := hat.cells
    obtain ⟨l0, l1, l2⟩ := hl.cells
    have cbm := hbm.cell
    have cbn := hbn.cell
    obtain ⟨T, hT⟩ : ∃ T, diff3_Chunks.nxt ma mb lo la lb (lo - o) o = T := ⟨_, rfl⟩
    have hnext := diff3_Chunks.next Bat Bl Bm Bn o a b lo la lb ma mb Am An cm cn wr hat.ends hl.ends (by rw [lma]; exact cbm) (by rw [lmb]; exact cbn) (diff3_Chunks.Rw_C hrm).2 (diff3_Chunks.Rw_C hrn).2 lma lmb hoo hlo T hT
    have HX := Lib.hid hx
    have HCH := Lib.hid hch
    have HT := Lib.hid hT
    have HN := Lib.hid hnext
    clear hx hch hT hnext
    gi_step
    gi_step
    rename_i K7 hK7
    have cont : ∀ v29 v30 v31 : Value, ¬ (o = lo ∧ a = la ∧ b = lb) → K7 { tmps := #[Value.func (Fn.yield l) #[] #[], Value.pointer (some ⟨Bo, 0, none⟩), Value.pointer (some ⟨Ba, 0, none⟩), Value.pointer (some ⟨Bb, 0, none⟩), undef, Value.pointer (some ⟨Bm, 0, none⟩), Value.pointer (some ⟨Bn, 0, none⟩), Value.pointer (some ⟨Bat, 0, none⟩), Value.pointer (some ⟨Bl, 0, none⟩), Value.func (Fn.func 35) #[] #[Value.pointer (some ⟨Bat, 0, none⟩), Value.pointer (some ⟨Bl, 0, none⟩), Value.pointer (some ⟨Bm, 0, none⟩), Value.pointer (some ⟨Bn, 0, none⟩)], Value.func (Fn.func 36) #[] #[Value.pointer (some ⟨Bat, 0, none⟩), Value.pointer (some ⟨Bl, 0, none⟩), Value.pointer (some ⟨Bm, 0, none⟩), Value.pointer (some ⟨Bn, 0, none⟩)], u11, u12, x13, x14, Value.slice Am lo cm, x16, x17, Value.slice An lo cn, x19, x20, x21, x22, x23, x24, x25, x26, Value.func (Fn.func 35) #[] #[Value.pointer (some ⟨Bat, 0, none⟩), Value.pointer (some ⟨Bl, 0, none⟩), Value.pointer (some ⟨Bm, 0, none⟩), Value.pointer (some ⟨Bn, 0, none⟩)], Value.func (Fn.func 36) #[] #[Value.pointer (some ⟨Bat, 0, none⟩), Value.pointer (some ⟨Bl, 0, none⟩), Value.pointer (some ⟨Bm, 0, none⟩), Value.pointer (some ⟨Bn, 0, none⟩)], v29, v30, v31, u32, u33, u34, u35, u36, u37, u38, u39, u40, u41, u42, u43, u44, u45, u46, u47, u48, u49, u50, u51, u52, u53, u54, u55, u56], defers := [] } wr := by
     intro v29 v30 v31 he
     refine hK7 _ _ ?_
     clear hK7 K7
     gi_wp2_with (refine ⟨trivial, ?_⟩; gi_at_call 36; refine (callsIn_wide.2 HN.out).mono ?_; rintro e w' ⟨rfl, hB1⟩)
     obtain ⟨Bt, hBt⟩ : ∃ Bt, w'.heap.size = Bt := ⟨_, rfl⟩
     have n3 := World.alloc_heap_new w' (Obj.cells #[Value.int IntKind.i64 T.1, Value.int IntKind.i64 T.2.1, Value.int IntKind.i64 T.2.2] 46)
     have hB3 : Below wr.heap.size wr (w'.alloc (Obj.cells #[Value.int IntKind.i64 T.1, Value.int IntKind.i64 T.2.1, Value.int IntKind.i64 T.2.2] 46)) := below_alloc hB1 _
     rw [hBt] at n3 ⊢
     generalize w'.alloc (Obj.cells #[Value.int IntKind.i64 T.1, Value.int IntKind.i64 T.2.1, Value.int IntKind.i64 T.2.2] 46) = W3 at n3 hB3 ⊢
     have t3 := diff3_Chunks.Tri_below hB3 hat
     have s3 := diff3_Chunks.Tri_below hB3 hl
     have m3 := diff3_Chunks.Bx_below hB3 hbm
     have r3 := diff3_Chunks.Bx_below hB3 hbn
     have p3 := diff3_Chunks.Rw_below hrm hB3
     have q3 := diff3_Chunks.Rw_below hrn hB3
     have j3 := HJb.out _ _ _ hJ hB3
     have hBtn : Bat ≠ Bt := by
      rintro rfl
      have h1 := (Array.getElem?_eq_some_iff.1 hat).1
      have h2 := hB1.size
      omega
     have hBt0 : W.heap.size ≤ Bt := by
      have h1 := (Array.getElem?_eq_some_iff.1 hat).1
      have h2 := hB1.size
      omega
     have hBln : Bl ≠ Bt := by
      rintro rfl
      have h1 := (Array.getElem?_eq_some_iff.1 hl).1
      have h2 := hB1.size
      omega
     have hst := diff3_Chunks.stable Bat Bl Bm Bn o a b lo la lb ma mb Am An cm cn W3 t3.ends s3.ends (by rw [lma]; exact m3.cell) (by rw [lmb]; exact r3.cell) (diff3_Chunks.Rw_C p3).2 (diff3_Chunks.Rw_C q3).2 lma lmb hoo hlo (by omega) (by omega)
     refine ⟨trivial, ?_⟩
     gi_at_call 35
     refine (callsIn_wide.2 hst).mono ?_
     clear hst
     rintro e W4 ⟨rfl, m, hW4⟩
     have hB4 : Below W3.heap.size W3 W4 := by rw [hW4]; exact Zd (Below.refl _ _) m
     clear hW4
     have t4 := diff3_Chunks.Tri_below hB4 t3
     have s4 := diff3_Chunks.Tri_below hB4 s3
     have n4 : diff3_Chunks.Tri W4 Bt T.1 T.2.1 T.2.2 := diff3_Chunks.Tri_below hB4 n3
     have m4 := diff3_Chunks.Bx_below hB4 m3
     have r4 := diff3_Chunks.Bx_below hB4 r3
     have p4 := diff3_Chunks.Rw_below p3 hB4
     have q4 := diff3_Chunks.Rw_below q3 hB4
     have j4 := HJb.out _ _ _ j3 hB4
     clear t3 s3 n3 m3 r3 p3 q3 j3 hB4 hB3 hB1 hBt HN hat hl hbm hbn hrm hrn hJ a0 a1 a2 l0 l1 l2 cbm cbn
     obtain ⟨N, hN⟩ : ∃ N, diff3_Chunks.stab ma mb o a b lo (lo - o) 0 = N := ⟨_, rfl⟩
     rw [hN]
     have HTO := Lib.hid (show diff3_Chunks.to ma mb lo la lb o a b = if 0 < N then ((o : Int) + (N : Nat), (a : Int) + (N : Nat), (b : Int) + (N : Nat)) else T by
      unfold diff3_Chunks.to; rw [hN, HT.out])
     clear hN HT
     obtain ⟨c0, c1, c2⟩ := t4.cells
     obtain ⟨d0, d1, d2⟩ := n4.cells
     obtain ⟨f0, f1, f2⟩ := n4.frozen
     have HCH' : ∃ k' rest', k = k' + 1 ∧ rest = ((((o : Int), (a : Int), (b : Int)), diff3_Chunks.to ma mb lo la lb o a b)) :: rest' ∧
       diff3_Chunks.chs ma mb lo la lb k' (diff3_Chunks.to ma mb lo la lb o a b).1.toNat (diff3_Chunks.to ma mb lo la lb o a b).2.1.toNat (diff3_Chunks.to ma mb lo la lb o a b).2.2.toNat = some rest' ∧
       (let t := diff3_Chunks.to ma mb lo la lb o a b; (o : Int) ≤ t.1 ∧ (a : Int) ≤ t.2.1 ∧ (b : Int) ≤ t.2.2 ∧ (o : Int) + a + b < t.1 + t.2.1 + t.2.2 ∧ t.1 ≤ lo ∧ t.2.1 ≤ la ∧ t.2.2 ≤ lb) := by
      have hch := HCH.out
      cases k with
      | zero => cases hch
      | succ k =>
       rw [diff3_Chunks.chs, if_neg he] at hch
       dsimp only at hch
       split at hch
       ·rename_i hb
        obtain ⟨rest', h1, h2⟩ := Option.map_eq_some_iff.1 hch
        exact ⟨k, rest', rfl, h2.symm, h1, hb⟩
       ·cases hch
     obtain ⟨k', rest', rfl, rfl, hch', hbd⟩ := HCH'
     clear HCH
     have hx := HX.out
     clear HX
     dsimp only at hbd
     by_cases hp : 0 < N
     ·have hto := HTO.out
      rw [if_pos hp] at hto
      rw [hto] at hx hch' hbd
      dsimp only at hbd hch'
      clear HTO hto
      have HX := Lib.hid hx
      have HCH := Lib.hid hch'
      clear hx hch'
      obtain ⟨b1, b2, b3, b4, b5, b6, b7⟩ := hbd
      have hp' : (0 : Int) < (N : Int) := Int.natCast_pos.2 hp
      have HB := Lib.hid (show _ ∧ _ ∧ _ ∧ _ ∧ _ ∧ _ ∧ _ from ⟨b1, b2, b3, b4, b5, b6, b7⟩)
      have w1 := diff3_Chunks.w2s b5 hlo
      have w2 := diff3_Chunks.w2s b6 hla
      have w3 := diff3_Chunks.w2s b7 hlb
      clear b1 b2 b3 b4 b5 b6 b7
      obtain ⟨j5, n5, e5⟩ := diff3_Chunks.store3 n4 ((o : Int) + (N : Int)) ((a : Int) + (N : Int)) ((b : Int) + (N : Int)) (fun A cells i v => HJs.out pre A Bt cells i v hBt0) j4
      have t5 : diff3_Chunks.Tri _ Bat _ _ _ := (e5 Bat hBtn).trans t4
      have s5 : diff3_Chunks.Tri _ Bl _ _ _ := (e5 Bl hBln).trans s4
      have m5 := diff3_Chunks.Bx_ne n4 e5 m4
      have r5 := diff3_Chunks.Bx_ne n4 e5 r4
      have p5 := diff3_Chunks.Rw_ne n4 e5 p4
      have q5 := diff3_Chunks.Rw_ne n4 e5 q4
      have hlen : pre ++ [(((o : Int), (a : Int), (b : Int)), ((o : Int) + (N : Int), (a : Int) + (N : Int), (b : Int) + (N : Int)))] <+: all := ⟨rest', by rw [HX.out, List.append_assoc]; rfl⟩
      obtain ⟨fn, tmps, assign, body, hy, hR⟩ := HY.out pre (((o : Int), (a : Int), (b : Int)), ((o : Int) + (N : Int), (a : Int) + (N : Int), (b : Int) + (N : Int))) _ j5 hlen
      clear hlen
      unfold diff3_Chunks.e3 at hy
      dsimp only at hy
      clear e5 t4 s4 n4 m4 r4 p4 q4 j4 j5
      gi_wp2
      refine hR.mono ?_
      rintro e W6 (⟨rfl, j6, kp⟩ | ⟨rfl, hjx⟩)
      ·have t6 := kp.tri t5
       have n6 := kp.tri n5
       have s6 := kp.tri s5
       have m6 := kp.box m5
       have r6 := kp.box r5
       have p6 := kp.rw p5
       have q6 := kp.rw q5
       clear t5 n5 s5 m5 r5 p5 q5 kp c0 c1 c2 d0 d1 d2 f0 f1 f2 hR hy
       obtain ⟨c0, c1, c2⟩ := t6.cells
       obtain ⟨d0, d1, d2⟩ := n6.cells
       obtain ⟨f0, f1, f2⟩ := t6.frozen
       obtain ⟨j7, n7, e7⟩ := diff3_Chunks.store3 t6 ((o : Int) + (N : Int)) ((a : Int) + (N : Int)) ((b : Int) + (N : Int)) (fun A cells i v => HJs.out _ A Bat cells i v hge) j6
       obtain ⟨b5, b6, b7, b8, b9, b10, b11⟩ := HB.out
       have z1 : (((o : Int) + (N : Int)).toNat : Int) = (o : Int) + (N : Int) := diff3_Chunks.tnn b5
       have z2 : (((a : Int) + (N : Int)).toNat : Int) = (a : Int) + (N : Int) := diff3_Chunks.tnn b6
       have z3 : (((b : Int) + (N : Int)).toNat : Int) = (b : Int) + (N : Int) := diff3_Chunks.tnn b7
       have Z1 := Lib.hid z1
       have Z2 := Lib.hid z2
       have Z3 := Lib.hid z3
       clear b5 b6 b7 b8 b9 b10 b11 z1 z2 z3
       have E7 := Lib.hid e7
       clear e7
       gi_wp2
       go_roundw
       case rel =>
        refine ⟨_, _, _, _, _, _, _, _, _, _, _, _, _, _, _, _, _, _, _, _, _, _, _, _, _, _, _, _, _, _, ?_, rfl⟩
        have e7 := E7.out
        obtain ⟨b5, b6, b7, b8, b9, b10, b11⟩ := HB.out
        refine ⟨_, rest', k', ((o : Int) + (N : Int)).toNat, ((a : Int) + (N : Int)).toNat, ((b : Int) + (N : Int)).toNat, ?_, HCH.out, diff3_Chunks.tle b9, diff3_Chunks.tle b10, diff3_Chunks.tle b11, ?_, (e7 Bl (Ne.symm hne)).trans s6, diff3_Chunks.Bx_ne t6 e7 m6, diff3_Chunks.Bx_ne t6 e7 r6, diff3_Chunks.Rw_ne t6 e7 p6, diff3_Chunks.Rw_ne t6 e7 q6, j7⟩
        ·rw [HX.out, List.append_assoc]; rfl
        ·rw [Z1.out, Z2.out, Z3.out]; exact n7
       case measure =>
        obtain ⟨b5, b6, b7, b8, b9, b10, b11⟩ := HB.out
        exact diff3_Chunks.left_lt hat0 n7 b5 b6 b7 b8 (diff3_Chunks.sum3 b9 b10 b11)
      ·gi_wp2
       refine bodyPost_ret (results_none rfl _ _ _) rfl ?_
       exact ⟨⟨_, rfl⟩, .inr ⟨pre ++ [_], ⟨rest', by rw [HX.out, List.append_assoc]; rfl⟩, hjx⟩⟩
     ·have hto := HTO.out
      rw [if_neg hp] at hto
      rw [hto] at hx hch' hbd
      clear HTO hto
      have HX := Lib.hid hx
      have HCH := Lib.hid hch'
      have HB := Lib.hid hbd
      clear hx hch' hbd
      have hp' : ¬ (0 : Int) < (N : Int) := fun h => hp (Int.natCast_pos.1 h)
      have hlen : pre ++ [(((o : Int), (a : Int), (b : Int)), T)] <+: all := ⟨rest', by rw [HX.out, List.append_assoc]; rfl⟩
      obtain ⟨fn, tmps, assign, body, hy, hR⟩ := HY.out pre (((o : Int), (a : Int), (b : Int)), T) W4 j4 hlen
      clear hlen
      unfold diff3_Chunks.e3 at hy
      dsimp only at hy
      have n5 := n4
      have t5 := t4
      have s5 := s4
      have m5 := m4
      have r5 := r4
      have p5 := p4
      have q5 := q4
      clear t4 s4 n4 m4 r4 p4 q4 j4
      gi_wp2
      refine hR.mono ?_
      rintro e W6 (⟨rfl, j6, kp⟩ | ⟨rfl, hjx⟩)
      ·have t6 := kp.tri t5
       have n6 := kp.tri n5
       have s6 := kp.tri s5
       have m6 := kp.box m5
       have r6 := kp.box r5
       have p6 := kp.rw p5
       have q6 := kp.rw q5
       clear t5 n5 s5 m5 r5 p5 q5 kp c0 c1 c2 d0 d1 d2 f0 f1 f2 hR hy
       obtain ⟨c0, c1, c2⟩ := t6.cells
       obtain ⟨d0, d1, d2⟩ := n6.cells
       obtain ⟨f0, f1, f2⟩ := t6.frozen
       obtain ⟨j7, n7, e7⟩ := diff3_Chunks.store3 t6 (T.1) (T.2.1) (T.2.2) (fun A cells i v => HJs.out _ A Bat cells i v hge) j6
       obtain ⟨b5, b6, b7, b8, b9, b10, b11⟩ := HB.out
       have z1 : ((T.1).toNat : Int) = T.1 := diff3_Chunks.tnn b5
       have z2 : ((T.2.1).toNat : Int) = T.2.1 := diff3_Chunks.tnn b6
       have z3 : ((T.2.2).toNat : Int) = T.2.2 := diff3_Chunks.tnn b7
       have Z1 := Lib.hid z1
       have Z2 := Lib.hid z2
       have Z3 := Lib.hid z3
       clear b5 b6 b7 b8 b9 b10 b11 z1 z2 z3
       have E7 := Lib.hid e7
       clear e7
       gi_wp2
       go_roundw
       case rel =>
        refine ⟨_, _, _, _, _, _, _, _, _, _, _, _, _, _, _, _, _, _, _, _, _, _, _, _, _, _, _, _, _, _, ?_, rfl⟩
        have e7 := E7.out
        obtain ⟨b5, b6, b7, b8, b9, b10, b11⟩ := HB.out
        refine ⟨_, rest', k', (T.1).toNat, (T.2.1).toNat, (T.2.2).toNat, ?_, HCH.out, diff3_Chunks.tle b9, diff3_Chunks.tle b10, diff3_Chunks.tle b11, ?_, (e7 Bl (Ne.symm hne)).trans s6, diff3_Chunks.Bx_ne t6 e7 m6, diff3_Chunks.Bx_ne t6 e7 r6, diff3_Chunks.Rw_ne t6 e7 p6, diff3_Chunks.Rw_ne t6 e7 q6, j7⟩
        ·rw [HX.out, List.append_assoc]; rfl
        ·rw [Z1.out, Z2.out, Z3.out]; exact n7
       case measure =>
        obtain ⟨b5, b6, b7, b8, b9, b10, b11⟩ := HB.out
        exact diff3_Chunks.left_lt hat0 n7 b5 b6 b7 b8 (diff3_Chunks.sum3 b9 b10 b11)
      ·gi_wp2
       refine bodyPost_ret (results_none rfl _ _ _) rfl ?_
       exact ⟨⟨_, rfl⟩, .inr ⟨pre ++ [_], ⟨rest', by rw [HX.out, List.append_assoc]; rfl⟩, hjx⟩⟩
    clear hK7 HN hat hl hbm hbn hrm hrn cbm cbn HT
    gi_wp2
    ·rename_i e1 e2 e3
     go_end0
     refine ⟨⟨_, rfl⟩, .inl ?_⟩
     have hx := HX.out
     have hch := HCH.out
     cases k with
     | zero => cases hch
     | succ k =>
      rw [diff3_Chunks.chs, if_pos ⟨by omega, by omega, by omega⟩] at hch
      cases hch
      rw [hx, List.append_nil]
      exact hJ
    all_goals first | exact cont _ _ _ (by intro h; omega) | (intro h; omega)
  have hbb1 : ¬ Bb = W'.heap.size := by omega
  have hbb2 : ¬ Bb = W'.heap.size + 1 := by omega
  have hb1 : ((W'.alloc (Obj.cells #[Value.int IntKind.i64 0, Value.int IntKind.i64 0, Value.int IntKind.i64 0] 46)).alloc (Obj.cells #[Value.int IntKind.i64 0, Value.int IntKind.i64 0, Value.int IntKind.i64 0] 46)).cell? ⟨Bb, 0, none⟩ = some (.slice Sb lb cb) := by
   refine Kd.cell_heap (w := W') (fun k hk => ?_) kb
   rw [Below.heap_alloc _ _ _ (by simp; omega), Below.heap_alloc _ _ _ (by omega)]
  have go : ∀ (c1 c2 : Obj), Below W'.heap.size W' ((W'.alloc c1).alloc c2).drew := fun c1 c2 => below_drew (below_alloc (below_alloc (Below.refl _ _) _) _ )
  have n1 : ∀ (c1 c2 : Obj), ((W'.alloc c1).alloc c2).drew.heap[W'.heap.size]? = some c1 := fun c1 c2 => (Below.heap_alloc _ _ _ (by simp)).trans (World.alloc_heap_new W' c1)
  have n2 : ∀ (c1 c2 : Obj), ((W'.alloc c1).alloc c2).drew.heap[W'.heap.size + 1]? = some c2 := fun c1 c2 => by
   have := World.alloc_heap_new (W'.alloc c1) c2
   rw [World.size_alloc] at this; exact this
  gi_region
  ·exact key2 _ _ _ _ _ _ _ _ _ _ _ (by omega) (by omega) (diff3_Chunks.belowTr (go _ _) hB) (diff3_Chunks.Bx_below (go _ _) hbm) (diff3_Chunks.Bx_below (go _ _) hbn) (diff3_Chunks.Rw_below hrm (go _ _)) (diff3_Chunks.Rw_below hrn (go _ _)) (n1 _ _) (n2 _ _)
  ·exact key2 _ _ _ _ _ _ _ _ _ _ _ (by omega) (by omega) (diff3_Chunks.belowTr (go _ _) hB) (diff3_Chunks.Bx_below (go _ _) hbm) (diff3_Chunks.Bx_below (go _ _) hbn) (diff3_Chunks.Rw_below hrm (go _ _)) (diff3_Chunks.Rw_below hrn (go _ _)) (n2 _ _) (n1 _ _)
 refine wpIn_region_any hm ?_
 refine diff3_Chunks.anyIn_start (fun X ops hops hX => ?_)
 have hrdB : ∀ b0 b1 b2 b3 b4 b5 b6 b7 : Bool, ((Region.ready .any ops #[b0, b1, b2, b3, b4, b5, b6, b7, false, false]).all fun i => ((i == 0 && !b0) || ((i == 1 && !b1) || ((i == 2 && (b0 && (b1 && !b2))) || ((i == 3 && !b3) || ((i == 4 && !b4) || ((i == 5 && (b3 && (b4 && !b5))) || ((i == 6 && !b6) || ((i == 7 && !b7) || (i == 8 && (b2 && (b5 && (b6 && (b7 && (b0 && b1))))))))))))))) = true := by
  subst hops; decide +kernel
 have hrd : ∀ b0 b1 b2 b3 b4 b5 b6 b7 : Bool, ∀ i ∈ Region.ready .any ops #[b0, b1, b2, b3, b4, b5, b6, b7, false, false], (i = 0 ∧ b0 = false) ∨ (i = 1 ∧ b1 = false) ∨ (i = 2 ∧ b0 = true ∧ b1 = true ∧ b2 = false) ∨ (i = 3 ∧ b3 = false) ∨ (i = 4 ∧ b4 = false) ∨ (i = 5 ∧ b3 = true ∧ b4 = true ∧ b5 = false) ∨ (i = 6 ∧ b6 = false) ∨ (i = 7 ∧ b7 = false) ∨ (i = 8 ∧ b2 = true ∧ b5 = true ∧ b6 = true ∧ b7 = true ∧ b0 = true ∧ b1 = true) := by
  intro b0 b1 b2 b3 b4 b5 b6 b7 i hi
  have := List.all_eq_true.1 (hrdB b0 b1 b2 b3 b4 b5 b6 b7) i hi
  simpa only [Bool.or_eq_true, Bool.and_eq_true, beq_iff_eq, Bool.not_eq_true'] using this
 have hne : ∀ b0 b1 b2 b3 b4 b5 b6 b7 : Bool, Region.ready .any ops #[b0, b1, b2, b3, b4, b5, b6, b7, false, false] ≠ [] := by
  subst hops; decide +kernel
 have main : ∀ (fuel : Nat) (b0 b1 b2 b3 b4 b5 b6 b7 : Bool) (x5 x6 x13 x14 x15 x16 x17 x18 : Value) (w : World), fuel = 2 + (diff3_Chunks.c01 b0 + diff3_Chunks.c01 b1 + diff3_Chunks.c01 b2 + diff3_Chunks.c01 b3 + diff3_Chunks.c01 b4 + diff3_Chunks.c01 b5 + diff3_Chunks.c01 b6 + diff3_Chunks.c01 b7) → Below W.heap.size W w →
   (b0 = true → x13 = .slice So lo co) → (b1 = true → x14 = .slice Sa la ca) → (b2 = true → ∃ A c, x15 = .slice A lo c ∧ diff3_Chunks.Rw w A lo c ma) →
   (b3 = true → x16 = .slice So lo co) → (b4 = true → x17 = .slice Sb lb cb) → (b5 = true → ∃ A c, x18 = .slice A lo c ∧ diff3_Chunks.Rw w A lo c mb) →
   (b6 = true → ∃ B, x5 = .pointer (some ⟨B, 0, none⟩) ∧ W.heap.size ≤ B ∧ Boxed w B 22 (.slice none 0 0)) → (b7 = true → ∃ B, x6 = .pointer (some ⟨B, 0, none⟩) ∧ W.heap.size ≤ B ∧ Boxed w B 22 (.slice none 0 0)) →
   (b6 = true → b7 = true → x5 ≠ x6) → (b5 = true → b3 = true ∧ b4 = true) → X fuel #[b0, b1, b2, b3, b4, b5, b6, b7, false, false] { tmps := #[Value.func (Fn.yield l) #[] #[], Value.pointer (some ⟨Bo, 0, none⟩), Value.pointer (some ⟨Ba, 0, none⟩), Value.pointer (some ⟨Bb, 0, none⟩), undef, x5, x6, undef, undef, undef, undef, undef, undef, x13, x14, x15, x16, x17, x18, undef, undef, undef, undef, undef, undef, undef, undef, undef, undef, undef, undef, undef, undef, undef, undef, undef, undef, undef, undef, undef, undef, undef, undef, undef, undef, undef, undef, undef, undef, undef, undef, undef, undef, undef, undef, undef, undef], defers := [] } w := by
  intro fuel
  induction fuel with
  | zero => intros; omega
  | succ fuel ih =>
   intro b0 b1 b2 b3 b4 b5 b6 b7 x5 x6 x13 x14 x15 x16 x17 x18 w hf hB h0 h1 h2 h3 h4 h5 h6 h7 h67 h35
   subst hX
   refine ⟨fun h => absurd h (hne b0 b1 b2 b3 b4 b5 b6 b7), fun i hi => ?_⟩
   have hc := hrd b0 b1 b2 b3 b4 b5 b6 b7 i hi
   clear hi hrd hne
   have ko := Kd.cell_heap hB.block ho
   have ka := Kd.cell_heap hB.block ha
   have kb := Kd.cell_heap hB.block hb
   rcases hc with ⟨rfl, rfl⟩ | ⟨rfl, rfl⟩ | ⟨rfl, rfl, rfl, rfl⟩ | ⟨rfl, rfl⟩ | ⟨rfl, rfl⟩ | ⟨rfl, rfl, rfl, rfl⟩ | ⟨rfl, rfl⟩ | ⟨rfl, rfl⟩ | ⟨rfl, rfl, rfl, rfl, rfl, rfl, rfl⟩
   ·subst hops
    clear hK key
    refine wpOpIn_step rfl (fun K' hK' => ?_)
    go_simp
    refine hK' _ _ (ih true b1 b2 b3 b4 b5 b6 b7 x5 x6 _ x14 x15 x16 x17 x18 w (by simp only [diff3_Chunks.c01_f, diff3_Chunks.c01_t] at hf ⊢; omega) hB (fun _ => rfl) h1 h2 h3 h4 h5 h6 h7 h67 h35)
   ·subst hops
    clear hK key
    refine wpOpIn_step rfl (fun K' hK' => ?_)
    go_simp
    refine hK' _ _ (ih b0 true b2 b3 b4 b5 b6 b7 x5 x6 x13 _ x15 x16 x17 x18 w (by simp only [diff3_Chunks.c01_f, diff3_Chunks.c01_t] at hf ⊢; omega) hB h0 (fun _ => rfl) h2 h3 h4 h5 h6 h7 h67 h35)
   ·subst hops
    clear hK key
    obtain rfl := h0 rfl
    obtain rfl := h1 rfl
    clear h0 h1
    refine wpOpIn_step rfl (fun K' hK' => ?_)
    go_simp
    gi_wp2_with (refine ⟨trivial, ?_⟩; gi_at_call 34; refine (hMa _ hB).mono ?_; rintro e w' ⟨A', c', rfl, hR', hB'⟩)
    exact ih true true true b3 b4 b5 b6 b7 x5 x6 _ _ _ x16 x17 x18 w' (by simp only [diff3_Chunks.c01_f, diff3_Chunks.c01_t] at hf ⊢; omega) (diff3_Chunks.belowTr hB' hB) (fun _ => rfl) (fun _ => rfl) (fun _ => ⟨A', c', rfl, hR'⟩) h3 h4 (fun e => (h5 e).elim fun A h => h.elim fun c h => ⟨A, c, h.1, diff3_Chunks.Rw_below h.2 hB'⟩) (fun e => (h6 e).elim fun B h => ⟨B, h.1, h.2.1, diff3_Chunks.Bx_below hB' h.2.2⟩) (fun e => (h7 e).elim fun B h => ⟨B, h.1, h.2.1, diff3_Chunks.Bx_below hB' h.2.2⟩) h67 h35
   ·subst hops
    clear hK key
    refine wpOpIn_step rfl (fun K' hK' => ?_)
    go_simp
    refine hK' _ _ (ih b0 b1 b2 true b4 b5 b6 b7 x5 x6 x13 x14 x15 _ x17 x18 w (by simp only [diff3_Chunks.c01_f, diff3_Chunks.c01_t] at hf ⊢; omega) hB h0 h1 h2 (fun _ => rfl) h4 h5 h6 h7 h67 (fun e => ⟨rfl, (h35 e).2⟩))
   ·subst hops
    clear hK key
    refine wpOpIn_step rfl (fun K' hK' => ?_)
    go_simp
    refine hK' _ _ (ih b0 b1 b2 b3 true b5 b6 b7 x5 x6 x13 x14 x15 x16 _ x18 w (by simp only [diff3_Chunks.c01_f, diff3_Chunks.c01_t] at hf ⊢; omega) hB h0 h1 h2 h3 (fun _ => rfl) h5 h6 h7 h67 (fun e => ⟨(h35 e).1, rfl⟩))
   ·subst hops
    clear hK key
    obtain rfl := h3 rfl
    obtain rfl := h4 rfl
    clear h3 h4
    refine wpOpIn_step rfl (fun K' hK' => ?_)
    go_simp
    gi_wp2_with (refine ⟨trivial, ?_⟩; gi_at_call 34; refine (hMb _ hB).mono ?_; rintro e w' ⟨A', c', rfl, hR', hB'⟩)
    exact ih b0 b1 b2 true true true b6 b7 x5 x6 x13 x14 x15 _ _ _ w' (by simp only [diff3_Chunks.c01_f, diff3_Chunks.c01_t] at hf ⊢; omega) (diff3_Chunks.belowTr hB' hB) h0 h1 (fun e => (h2 e).elim fun A h => h.elim fun c h => ⟨A, c, h.1, diff3_Chunks.Rw_below h.2 hB'⟩) (fun _ => rfl) (fun _ => rfl) (fun _ => ⟨A', c', rfl, hR'⟩) (fun e => (h6 e).elim fun B h => ⟨B, h.1, h.2.1, diff3_Chunks.Bx_below hB' h.2.2⟩) (fun e => (h7 e).elim fun B h => ⟨B, h.1, h.2.1, diff3_Chunks.Bx_below hB' h.2.2⟩) h67 (fun _ => ⟨rfl, rfl⟩)
   ·subst hops
    clear hK key
    refine wpOpIn_step rfl (fun K' hK' => ?_)
    go_simp
    refine hK' _ _ (ih b0 b1 b2 b3 b4 b5 true b7 _ x6 x13 x14 x15 x16 x17 x18 _ (by simp only [diff3_Chunks.c01_f, diff3_Chunks.c01_t] at hf ⊢; omega) (below_alloc hB _) h0 h1 (fun e => (h2 e).elim fun A h => h.elim fun c h => ⟨A, c, h.1, diff3_Chunks.Rw_below h.2 (below_alloc (Below.refl _ _) _)⟩) h3 h4 (fun e => (h5 e).elim fun A h => h.elim fun c h => ⟨A, c, h.1, diff3_Chunks.Rw_below h.2 (below_alloc (Below.refl _ _) _)⟩) (fun _ => ⟨_, rfl, hB.size, Boxed.new _ _ _⟩) (fun e => (h7 e).elim fun B h => ⟨B, h.1, h.2.1, h.2.2.alloc _⟩) (fun _ e h => by obtain ⟨B, h1, _, h2⟩ := h7 e; rw [h1] at h; have hl := h2.lt; injection h with h; injection h with h; injection h with h; omega) h35)
   ·subst hops
    clear hK key
    refine wpOpIn_step rfl (fun K' hK' => ?_)
    go_simp
    refine hK' _ _ (ih b0 b1 b2 b3 b4 b5 b6 true x5 _ x13 x14 x15 x16 x17 x18 _ (by simp only [diff3_Chunks.c01_f, diff3_Chunks.c01_t] at hf ⊢; omega) (below_alloc hB _) h0 h1 (fun e => (h2 e).elim fun A h => h.elim fun c h => ⟨A, c, h.1, diff3_Chunks.Rw_below h.2 (below_alloc (Below.refl _ _) _)⟩) h3 h4 (fun e => (h5 e).elim fun A h => h.elim fun c h => ⟨A, c, h.1, diff3_Chunks.Rw_below h.2 (below_alloc (Below.refl _ _) _)⟩) (fun e => (h6 e).elim fun B h => ⟨B, h.1, h.2.1, h.2.2.alloc _⟩) (fun _ => ⟨_, rfl, hB.size, Boxed.new _ _ _⟩) (fun e _ h => by obtain ⟨B, h1, _, h2⟩ := h6 e; rw [h1] at h; have hl := h2.lt; injection h with h; injection h with h; injection h with h; omega) h35)
   ·obtain ⟨rfl, rfl⟩ := h35 rfl
    obtain ⟨Am, cm, rfl, hRm⟩ := h2 rfl
    obtain ⟨An, cn, rfl, hRn⟩ := h5 rfl
    obtain ⟨Bm, rfl, hm1, hm2⟩ := h6 rfl
    obtain ⟨Bn, rfl, hn1, hn2⟩ := h7 rfl
    have hmn : Bm ≠ Bn := fun e => h67 rfl rfl (by rw [e])
    clear h0 h1 h2 h3 h4 h5 h6 h7 h67 h35 ih
    obtain rfl : fuel = 1 := by simp only [diff3_Chunks.c01_t] at hf; omega
    subst hops
    have cm1 := hm2.cell
    have fm1 := hm2.frozen
    have cn1 := hn2.cell
    have fn1 := hn2.frozen
    have hmn' : ¬ Bn = Bm := fun e => hmn e.symm
    clear hK
    refine wpOpIn_step rfl (fun K' hK' => ?_)
    go_simp
    refine hK' _ _ ?_
    clear hK' K'
    refine wpAnyIn_ready (rs := [9]) (by kernel_rfl) (by simp) (AllReadyIn.cons rfl (fun K' hK' => ?_) AllReadyIn.nil)
    go_simp
    refine hK' _ _ (wpAnyIn_done (by kernel_rfl) ?_ _)
    refine key Bm Bn Am An cm cn _ x13 x14 x16 x17 ((hB.setCell hm1 _).setCell hn1 _) ?_ ?_ ?_ ?_
    ·exact boxed_far (hm2.set _) hmn _
    ·exact (boxed_far hn2 (Ne.symm hmn) _).set _
    ·exact diff3_Chunks.Rw_set (diff3_Chunks.Rw_set hRm hm2 (by decide) _) (boxed_far hn2 (Ne.symm hmn) _) (by decide) _
    ·exact diff3_Chunks.Rw_set (diff3_Chunks.Rw_set hRn hm2 (by decide) _) (boxed_far hn2 (Ne.symm hmn) _) (by decide) _
 refine main _ false false false false false false false false undef undef undef undef undef undef undef undef _ (by decide) (below_drew (Below.refl _ _)) ?_ ?_ ?_ ?_ ?_ ?_ ?_ ?_ ?_ ?_ <;> intro h <;> cases h
/-! what Chunks computes -/
def diff3_Chunks.piece (k : Nat) (l0 l1 l2 : List Int) (x : diff3_Chunks.T3 × diff3_Chunks.T3) : Option S41 :=
 if 0 ≤ x.1.1 ∧ x.1.1 ≤ x.2.1 ∧ x.2.1 ≤ l0.length ∧ 0 ≤ x.1.2.1 ∧ x.1.2.1 ≤ x.2.2.1 ∧ x.2.2.1 ≤ l1.length ∧ 0 ≤ x.1.2.2 ∧ x.1.2.2 ≤ x.2.2.2 ∧ x.2.2.2 ≤ l2.length then
  (diff3_kind.f k ((l0.take x.2.1.toNat).drop x.1.1.toNat) ((l1.take x.2.2.1.toNat).drop x.1.2.1.toNat) ((l2.take x.2.2.2.toNat).drop x.1.2.2.toNat)).map fun q => ⟨q, ⟨x.1.1, x.2.1⟩, ⟨x.1.2.1, x.2.2.1⟩, ⟨x.1.2.2, x.2.2.2⟩⟩
 else none
def diff3_Chunks.pieces (k : Nat) (l0 l1 l2 : List Int) : List (diff3_Chunks.T3 × diff3_Chunks.T3) → Option (List S41)
 | [] => some []
 | x :: l => (diff3_Chunks.piece k l0 l1 l2 x).bind fun s => (diff3_Chunks.pieces k l0 l1 l2 l).map (s :: ·)
theorem diff3_Chunks.pieces_snoc {k : Nat} {l0 l1 l2 : List Int} {x : diff3_Chunks.T3 × diff3_Chunks.T3} {s : S41} (hx : diff3_Chunks.piece k l0 l1 l2 x = some s) : ∀ {pre : List (diff3_Chunks.T3 × diff3_Chunks.T3)} {rs : List S41}, diff3_Chunks.pieces k l0 l1 l2 pre = some rs → diff3_Chunks.pieces k l0 l1 l2 (pre ++ [x]) = some (rs ++ [s])
 | [], rs, h => by
  cases h
  rw [List.nil_append, diff3_Chunks.pieces, hx]; rfl
 | y :: pre, rs, h => by
  rw [diff3_Chunks.pieces] at h
  obtain ⟨u, hu, h⟩ := Option.bind_eq_some_iff.1 h
  obtain ⟨rs', h1, h2⟩ := Option.map_eq_some_iff.1 h
  subst h2
  rw [List.cons_append, diff3_Chunks.pieces, hu, Option.bind_some, diff3_Chunks.pieces_snoc hx h1]; rfl
theorem diff3_Chunks.pieces_at {k : Nat} {l0 l1 l2 : List Int} {x : diff3_Chunks.T3 × diff3_Chunks.T3} : ∀ {pre post : List (diff3_Chunks.T3 × diff3_Chunks.T3)} {rs : List S41}, diff3_Chunks.pieces k l0 l1 l2 (pre ++ x :: post) = some rs → ∃ s, diff3_Chunks.piece k l0 l1 l2 x = some s
 | [], post, rs, h => by
  rw [List.nil_append, diff3_Chunks.pieces] at h
  obtain ⟨u, hu, _⟩ := Option.bind_eq_some_iff.1 h
  exact ⟨u, hu⟩
 | y :: pre, post, rs, h => by
  rw [List.cons_append, diff3_Chunks.pieces] at h
  obtain ⟨u, hu, h⟩ := Option.bind_eq_some_iff.1 h
  obtain ⟨rs', h1, h2⟩ := Option.map_eq_some_iff.1 h
  exact diff3_Chunks.pieces_at h1
theorem diff3_Chunks.pieces_length {k : Nat} {l0 l1 l2 : List Int} : ∀ {pre : List (diff3_Chunks.T3 × diff3_Chunks.T3)} {rs : List S41}, diff3_Chunks.pieces k l0 l1 l2 pre = some rs → rs.length = pre.length
 | [], rs, h => by cases h; rfl
 | y :: pre, rs, h => by
  rw [diff3_Chunks.pieces] at h
  obtain ⟨u, hu, h⟩ := Option.bind_eq_some_iff.1 h
  obtain ⟨rs', h1, h2⟩ := Option.map_eq_some_iff.1 h
  subst h2
  rw [List.length_cons, List.length_cons, diff3_Chunks.pieces_length h1]
theorem diff3_Chunks.chs_mono {ma mb : List Int} {lo la lb : Nat} : ∀ k o a b, LeO (diff3_Chunks.chs ma mb lo la lb k o a b) (diff3_Chunks.chs ma mb lo la lb (k + 1) o a b)
 | 0, o, a, b => by intro r h; cases h
 | k + 1, o, a, b => by
  intro r h
  rw [diff3_Chunks.chs] at h ⊢
  by_cases hc : o = lo ∧ a = la ∧ b = lb
  ·rw [if_pos hc] at h ⊢; exact h
  ·rw [if_neg hc] at h ⊢
   dsimp only at h ⊢
   split at h
   ·rename_i hd
    obtain ⟨r', h1, h2⟩ := Option.map_eq_some_iff.1 h
    rw [if_pos hd, diff3_Chunks.chs_mono k _ _ _ r' h1, ← h2]; rfl
   ·cases h
theorem diff3_Chunks.piece_mono {l0 l1 l2 : List Int} (x : diff3_Chunks.T3 × diff3_Chunks.T3) (k : Nat) : LeO (diff3_Chunks.piece k l0 l1 l2 x) (diff3_Chunks.piece (k + 1) l0 l1 l2 x) := by
 intro r h
 unfold diff3_Chunks.piece at h ⊢
 split at h
 ·rename_i hd
  obtain ⟨r', h1, h2⟩ := Option.map_eq_some_iff.1 h
  rw [if_pos hd, diff3_kind.mono _ _ _ k r' h1, ← h2]; rfl
 ·cases h
theorem diff3_Chunks.pieces_mono {l0 l1 l2 : List Int} (k : Nat) : ∀ l, LeO (diff3_Chunks.pieces k l0 l1 l2 l) (diff3_Chunks.pieces (k + 1) l0 l1 l2 l)
 | [] => by intro r h; exact h
 | x :: l => by
  intro r h
  rw [diff3_Chunks.pieces] at h ⊢
  obtain ⟨u, hu, h⟩ := Option.bind_eq_some_iff.1 h
  obtain ⟨rs', h1, h2⟩ := Option.map_eq_some_iff.1 h
  rw [diff3_Chunks.piece_mono x k u hu, Option.bind_some, diff3_Chunks.pieces_mono k l rs' h1, ← h2]; rfl
def diff3_Chunks.f (k : Nat) (l0 l1 l2 : List Int) : Option (List S41) :=
 if l0.length ≤ 1000000 ∧ l1.length ≤ 1000000 ∧ l2.length ≤ 1000000 then
  (lcs_Match.f k l0 l1).bind fun ma => (lcs_Match.f k l0 l2).bind fun mb =>
   if ma.length = l0.length ∧ mb.length = l0.length then
    (diff3_Chunks.chs ma mb l0.length l1.length l2.length k 0 0 0).bind fun all => if all.length ≤ 1000000000 then diff3_Chunks.pieces k l0 l1 l2 all else none
   else none
 else none
theorem diff3_Chunks.mono : ∀ a0 a1 a2 k, LeO (diff3_Chunks.f k a0 a1 a2) (diff3_Chunks.f (k + 1) a0 a1 a2) := by
 intro l0 l1 l2 k r h
 unfold diff3_Chunks.f at h ⊢
 split at h
 case isFalse => cases h
 rename_i h0
 rw [if_pos h0]
 obtain ⟨ma, h1, h⟩ := Option.bind_eq_some_iff.1 h
 obtain ⟨mb, h2, h⟩ := Option.bind_eq_some_iff.1 h
 rw [lcs_Match.mono _ _ k ma h1, Option.bind_some, lcs_Match.mono _ _ k mb h2, Option.bind_some]
 split at h
 case isFalse => cases h
 rename_i h3
 rw [if_pos h3]
 obtain ⟨all, h4, h⟩ := Option.bind_eq_some_iff.1 h
 rw [diff3_Chunks.chs_mono k _ _ _ all h4, Option.bind_some]
 split at h
 case isFalse => cases h
 rename_i h5
 rw [if_pos h5]
 exact diff3_Chunks.pieces_mono k all r h
/-! the walk of Chunks -/
theorem diff3_Chunks.Rk_step {W W' : World} {base : Nat} {v : Value} {xs : List S41} (h : Kd.R k41 41 W base (fun _ => True) v xs) (hm : ∀ (k : Nat) (cs : Array Value), W.heap[k]? = some (.cells cs 41 (0, 0)) → W'.heap[k]? = W.heap[k]?) : Kd.R k41 41 W' base (fun _ => True) v xs :=
 Kd.R_mono (Kd.R_move (Kd.R_bound h) (fun k hk => by
  obtain ⟨_, _, _, q, hq, cs, hc⟩ := hk
  have : q = 41 := by
   rcases List.mem_cons.1 hq with rfl | h'
   ·rfl
   ·exact absurd h' (by simp [k41, k39, Kd.iso, Kd.pair, Kd.int, Kd.scalar])
  subst this; exact hm k cs hc)) (fun _ _ => trivial)
theorem diff3_Chunks.Rk_own {W : World} {base : Nat} {v : Value} {xs : List S41} (h : Kd.R k41 41 W base (fun _ => True) v xs) : ∀ k, v.ownBlock = some k → ∃ cs, W.heap[k]? = some (.cells cs 41 (0, 0)) := fun k hk => by
 obtain ⟨_, _, _, q, hq, cs, hc⟩ := (Kd.R_bound h).1 k hk
 have : q = 41 := by
  rcases List.mem_cons.1 hq with rfl | h'
  ·rfl
  ·exact absurd h' (by simp [k41, k39, Kd.iso, Kd.pair, Kd.int, Kd.scalar])
 subst this; exact ⟨cs, hc⟩
theorem diff3_Chunks.Kp_t {A B C : World} (h : diff3_Chunks.Kp A B) (h' : diff3_Chunks.Kp B C) : diff3_Chunks.Kp A C := fun k cs t ht hc => (h' k cs t ht ((h k cs t ht hc).trans hc)).trans (h k cs t ht hc)
theorem diff3_Chunks.Kp_b (W : World) (l : Nat) (o o' : Obj) (hl : W.heap[l]? = some o) (ho : o.isCells = false) : diff3_Chunks.Kp W (W.putObj l o') := fun k cs t _ hc =>
 World.putObj_heap_other (by rintro rfl; rw [hl] at hc; cases hc; cases ho)
theorem diff3_Chunks.Kp_below {W W' : World} (h : Below W.heap.size W W') : diff3_Chunks.Kp W W' := fun k cs t _ hc => h.block k (Array.getElem?_eq_some_iff.1 hc).1
theorem diff3_Chunks.no_defer {ops : Array Oper} (h : (ops.toList.all fun o => match o.op with | .defer _ => false | _ => true) = true) : ∀ (i : Nat) (o : Oper), ops[i]? = some o → ∀ c, o.op ≠ .defer c := fun i o ho c e => by
 have := List.all_eq_true.1 h o (by rw [Array.mem_toList_iff]; exact Array.mem_of_getElem? ho)
 rw [e] at this
 cases this
set_option maxHeartbeats 1000000 in
theorem diff3_Chunks.make (A0 A1 A2 : Option Addr) (n0 n1 n2 c0 c1 c2 : Nat) (w : World) :
  CallsIn Fence.wide 4 Try.prog 23 #[.slice A0 n0 c0, .slice A1 n1 c1, .slice A2 n2 c2] w fun e w' => e = .returned (.func (.func 33) #[] #[.pointer (some ⟨w.heap.size, 0, none⟩), .pointer (some ⟨w.heap.size + 1, 0, none⟩), .pointer (some ⟨w.heap.size + 1 + 1, 0, none⟩)]) ∧ w' = ((w.alloc (.cells #[.slice A0 n0 c0] 22)).alloc (.cells #[.slice A1 n1 c1] 22)).alloc (.cells #[.slice A2 n2 c2] 22) := by
 refine callsIn_of_wp Try.func23 rfl trivial ?_ rfl
 simp only [Try.ntmps23, List.size_toArray, List.length_cons, List.length_nil, Nat.reduceAdd, Nat.reduceSub, Array.replicate_succ, Array.replicate_zero, List.push_toArray, List.append_toArray, List.nil_append, List.cons_append]
 gi_wp2
 go_ret
 exact ⟨rfl, rfl⟩
theorem diff3_Chunks.pieces_pre {k : Nat} {l0 l1 l2 : List Int} {x : diff3_Chunks.T3 × diff3_Chunks.T3} {pre all : List (diff3_Chunks.T3 × diff3_Chunks.T3)} {r : List S41} (hp : pre ++ [x] <+: all) (h : diff3_Chunks.pieces k l0 l1 l2 all = some r) : ∃ s, diff3_Chunks.piece k l0 l1 l2 x = some s := by
 obtain ⟨post, rfl⟩ := hp
 rw [List.append_assoc] at h
 exact diff3_Chunks.pieces_at h
section
attribute [local go_sem] Oper.semAt_some
set_option maxHeartbeats 8000000 in
set_option maxRecDepth 100000 in
theorem diff3_Chunks.run (k : Nat) (A0 A1 A2 : Option Addr) (c0 c1 c2 : Nat) (l0 l1 l2 : List Int) (r : List S41) (w : World) (hc0 : Kd.C (Kd.int .i64) w A0 l0.length l0) (hs0 : l0.length ≤ c0) (hc1 : Kd.C (Kd.int .i64) w A1 l1.length l1) (hs1 : l1.length ≤ c1) (hc2 : Kd.C (Kd.int .i64) w A2 l2.length l2) (hs2 : l2.length ≤ c2)
  (h : diff3_Chunks.f k l0 l1 l2 = some r) : CallsIn Fence.wide 5 Try.prog 10 #[.slice A0 l0.length c0, .slice A1 l1.length c1, .slice A2 l2.length c2] w fun e W' => ∃ v, e = .returned v ∧ Kd.R k41 41 W' w.heap.size (fun _ => True) v r ∧ Below w.heap.size w W' := by
 unfold diff3_Chunks.f at h
 split at h
 case isFalse => cases h
 rename_i hz
 obtain ⟨z0, z1, z2⟩ := hz
 obtain ⟨ma, hma, h⟩ := Option.bind_eq_some_iff.1 h
 obtain ⟨mb, hmb, h⟩ := Option.bind_eq_some_iff.1 h
 split at h
 case isFalse => cases h
 rename_i hl
 obtain ⟨lma, lmb⟩ := hl
 obtain ⟨all, hall, h⟩ := Option.bind_eq_some_iff.1 h
 split at h
 case isFalse => cases h
 rename_i hal
 have hm : Try.prog.follows .mixedOrders = true := by kernel_rfl
 refine callsIn_of_wp_marks Try.func10 rfl trivial ?_ rfl
 simp only [Try.ntmps10, List.size_toArray, List.length_cons, List.length_nil, Nat.reduceAdd, Nat.reduceSub, Array.replicate_succ, Array.replicate_zero, List.push_toArray, List.append_toArray, List.nil_append, List.cons_append]
 gi_wp2_with (refine ⟨trivial, ?_⟩; gi_at_call 23; refine (diff3_Chunks.make _ _ _ _ _ _ _ _ _ _).mono ?_; rintro e w' ⟨rfl, rfl⟩)
 have p0 := ((((((Boxed.new w 22 (.slice A0 l0.length c0)).alloc (.cells #[.slice A1 l1.length c1] 22)).alloc (.cells #[.slice A2 l2.length c2] 22)).alloc (.cells #[.slice none 0 0] 25)).alloc (.cells #[.slice A0 l0.length c0] 22)).alloc (.cells #[.slice A1 l1.length c1] 22)).alloc (.cells #[.slice A2 l2.length c2] 22)
 have p1 := (((((Boxed.new (w.alloc (.cells #[.slice A0 l0.length c0] 22)) 22 (.slice A1 l1.length c1)).alloc (.cells #[.slice A2 l2.length c2] 22)).alloc (.cells #[.slice none 0 0] 25)).alloc (.cells #[.slice A0 l0.length c0] 22)).alloc (.cells #[.slice A1 l1.length c1] 22)).alloc (.cells #[.slice A2 l2.length c2] 22)
 have p2 := ((((Boxed.new ((w.alloc (.cells #[.slice A0 l0.length c0] 22)).alloc (.cells #[.slice A1 l1.length c1] 22)) 22 (.slice A2 l2.length c2)).alloc (.cells #[.slice none 0 0] 25)).alloc (.cells #[.slice A0 l0.length c0] 22)).alloc (.cells #[.slice A1 l1.length c1] 22)).alloc (.cells #[.slice A2 l2.length c2] 22)
 have pO := (((Boxed.new (((w.alloc (.cells #[.slice A0 l0.length c0] 22)).alloc (.cells #[.slice A1 l1.length c1] 22)).alloc (.cells #[.slice A2 l2.length c2] 22)) 25 (.slice none 0 0)).alloc (.cells #[.slice A0 l0.length c0] 22)).alloc (.cells #[.slice A1 l1.length c1] 22)).alloc (.cells #[.slice A2 l2.length c2] 22)
 have d0 := ((Boxed.new ((((w.alloc (.cells #[.slice A0 l0.length c0] 22)).alloc (.cells #[.slice A1 l1.length c1] 22)).alloc (.cells #[.slice A2 l2.length c2] 22)).alloc (.cells #[.slice none 0 0] 25)) 22 (.slice A0 l0.length c0)).alloc (.cells #[.slice A1 l1.length c1] 22)).alloc (.cells #[.slice A2 l2.length c2] 22)
 have d1 := (Boxed.new (((((w.alloc (.cells #[.slice A0 l0.length c0] 22)).alloc (.cells #[.slice A1 l1.length c1] 22)).alloc (.cells #[.slice A2 l2.length c2] 22)).alloc (.cells #[.slice none 0 0] 25)).alloc (.cells #[.slice A0 l0.length c0] 22)) 22 (.slice A1 l1.length c1)).alloc (.cells #[.slice A2 l2.length c2] 22)
 have d2 := Boxed.new ((((((w.alloc (.cells #[.slice A0 l0.length c0] 22)).alloc (.cells #[.slice A1 l1.length c1] 22)).alloc (.cells #[.slice A2 l2.length c2] 22)).alloc (.cells #[.slice none 0 0] 25)).alloc (.cells #[.slice A0 l0.length c0] 22)).alloc (.cells #[.slice A1 l1.length c1] 22)) 22 (.slice A2 l2.length c2)
 simp only [World.size_alloc] at p0 p1 p2 pO d0 d1 d2
 have hB7 : Below w.heap.size w (((((((w.alloc (.cells #[.slice A0 l0.length c0] 22)).alloc (.cells #[.slice A1 l1.length c1] 22)).alloc (.cells #[.slice A2 l2.length c2] 22)).alloc (.cells #[.slice none 0 0] 25)).alloc (.cells #[.slice A0 l0.length c0] 22)).alloc (.cells #[.slice A1 l1.length c1] 22)).alloc (.cells #[.slice A2 l2.length c2] 22)) := below_alloc (below_alloc (below_alloc (below_alloc (below_alloc (below_alloc (below_alloc (Below.refl _ w) _) _) _) _) _) _) _
 have hz7 : (((((((w.alloc (.cells #[.slice A0 l0.length c0] 22)).alloc (.cells #[.slice A1 l1.length c1] 22)).alloc (.cells #[.slice A2 l2.length c2] 22)).alloc (.cells #[.slice none 0 0] 25)).alloc (.cells #[.slice A0 l0.length c0] 22)).alloc (.cells #[.slice A1 l1.length c1] 22)).alloc (.cells #[.slice A2 l2.length c2] 22)).heap.size = w.heap.size + 1 + 1 + 1 + 1 + 1 + 1 + 1 := by simp only [World.size_alloc]
 generalize (((((((w.alloc (.cells #[.slice A0 l0.length c0] 22)).alloc (.cells #[.slice A1 l1.length c1] 22)).alloc (.cells #[.slice A2 l2.length c2] 22)).alloc (.cells #[.slice none 0 0] 25)).alloc (.cells #[.slice A0 l0.length c0] 22)).alloc (.cells #[.slice A1 l1.length c1] 22)).alloc (.cells #[.slice A2 l2.length c2] 22)) = W7 at p0 p1 p2 pO d0 d1 d2 hB7 hz7 ⊢
 obtain ⟨B4, hB4e⟩ : ∃ b, w.heap.size + 1 = b := ⟨_, rfl⟩
 obtain ⟨B5, hB5e⟩ : ∃ b, B4 + 1 = b := ⟨_, rfl⟩
 obtain ⟨B7, hB7e⟩ : ∃ b, B5 + 1 = b := ⟨_, rfl⟩
 obtain ⟨D3, hD3e⟩ : ∃ b, B7 + 1 = b := ⟨_, rfl⟩
 obtain ⟨D4, hD4e⟩ : ∃ b, D3 + 1 = b := ⟨_, rfl⟩
 obtain ⟨D5, hD5e⟩ : ∃ b, D4 + 1 = b := ⟨_, rfl⟩
 rw [hB4e] at p1 p2 pO d0 d1 d2 hz7 ⊢
 rw [hB5e] at p2 pO d0 d1 d2 hz7 ⊢
 rw [hB7e] at pO d0 d1 d2 hz7 ⊢
 rw [hD3e] at d0 d1 d2 hz7 ⊢
 rw [hD4e] at d1 d2 hz7 ⊢
 rw [hD5e] at d2 hz7 ⊢
 have q0 : Kd.C (Kd.int .i64) W7 A0 l0.length l0 := Kd.C_below hc0 hB7
 refine range_own (T := 46) (gf := 33) (lb := #[Value.pointer (some ⟨D3, 0, none⟩), Value.pointer (some ⟨D4, 0, none⟩), Value.pointer (some ⟨D5, 0, none⟩)]) rfl (enters_of Try.func33 (by kernel_rfl) rfl) (encs := fun x : diff3_Chunks.T3 × diff3_Chunks.T3 => #[diff3_Chunks.e3 x.1, diff3_Chunks.e3 x.2]) (Kp := diff3_Chunks.Kp) (S := fun xs => xs = all) (Sp := fun pre => pre <+: all) ?seq diff3_Chunks.Kp_t (fun W l o o' _ hl ho _ => diff3_Chunks.Kp_b W l o o' hl ho) (fun _ => rfl)
  (fun pre W => Below w.heap.size w W ∧ ∃ v rs, diff3_Chunks.pieces k l0 l1 l2 pre = some rs ∧ Boxed W B7 25 v ∧ Kd.R k41 41 W w.heap.size (fun _ => True) v rs ∧ Boxed W w.heap.size 22 (.slice A0 l0.length c0) ∧ Boxed W B4 22 (.slice A1 l1.length c1) ∧ Boxed W B5 22 (.slice A2 l2.length c2))
  ?start ?hIb ?hIs ?hIp
  (fun x a' W => ∃ B8 B9, a' = { tmps := #[.slice A0 l0.length c0, .slice A1 l1.length c1, .slice A2 l2.length c2, Value.pointer (some ⟨w.heap.size, 0, none⟩), Value.pointer (some ⟨B4, 0, none⟩), Value.pointer (some ⟨B5, 0, none⟩), .slice none 0 0, Value.pointer (some ⟨B7, 0, none⟩), Value.pointer (some ⟨B8, 0, none⟩), Value.pointer (some ⟨B9, 0, none⟩), .slice A0 l0.length c0, .slice A1 l1.length c1, .slice A2 l2.length c2, .func (.func 33) #[] #[Value.pointer (some ⟨D3, 0, none⟩), Value.pointer (some ⟨D4, 0, none⟩), Value.pointer (some ⟨D5, 0, none⟩)], diff3_Chunks.e3 x.1, diff3_Chunks.e3 x.2, undef, undef, undef, undef, undef, undef, undef, undef, undef, undef, undef, undef, undef, undef, undef, undef, undef, undef, undef, undef, undef, undef, undef, undef, undef, undef, undef, undef, undef, undef, undef, undef, undef, undef, undef, undef, undef, undef, undef], defers := [] } ∧ diff3_Chunks.Tri W B8 x.1.1 x.1.2.1 x.1.2.2 ∧ diff3_Chunks.Tri W B9 x.2.1 x.2.2.1 x.2.2.2) ?hAp ?assign ?body ?done
 case seq =>
  intro l J Jx W hW hJ0 hJb hJs hY
  refine diff3_Chunks.run0 l D3 D4 D5 l0.length l1.length l2.length A0 A1 A2 c0 c1 c2 ma mb all k hall lma lmb z0 z1 z2 W J Jx hJ0 hJb hJs hY (Nat.lt_of_lt_of_le d0.lt hW.size) (Nat.lt_of_lt_of_le d1.lt hW.size) (Nat.lt_of_lt_of_le d2.lt hW.size)
   (diff3_Chunks.Bx_below hW d0).cell (diff3_Chunks.Bx_below hW d1).cell (diff3_Chunks.Bx_below hW d2).cell ?_ ?_
  ·intro W1 hW1
   have hb := diff3_Chunks.belowTr hW1 (diff3_Chunks.belowTr hW hB7)
   refine (callsIn_wide.2 (lcs_Match.calls k A0 c0 l0 A1 c1 l1 ma W1 (Kd.C_below hc0 hb) hs0 (Kd.C_below hc1 hb) hs1 hma)).mono ?_
   rintro e w' ⟨v, rfl, hR, hB⟩
   obtain ⟨A', c', rfl⟩ := Kd.R_slice hR
   rw [lma] at hR ⊢
   exact ⟨A', c', rfl, diff3_Chunks.Rw_of hR, hB⟩
  ·intro W1 hW1
   have hb := diff3_Chunks.belowTr hW1 (diff3_Chunks.belowTr hW hB7)
   refine (callsIn_wide.2 (lcs_Match.calls k A0 c0 l0 A2 c2 l2 mb W1 (Kd.C_below hc0 hb) hs0 (Kd.C_below hc2 hb) hs2 hmb)).mono ?_
   rintro e w' ⟨v, rfl, hR, hB⟩
   obtain ⟨A', c', rfl⟩ := Kd.R_slice hR
   rw [lmb] at hR ⊢
   exact ⟨A', c', rfl, diff3_Chunks.Rw_of hR, hB⟩
 case start =>
  intro W' hb
  exact ⟨diff3_Chunks.belowTr hb hB7, _, [], rfl, diff3_Chunks.Bx_below hb pO, Kd.R_nil _ _ _ _ _, diff3_Chunks.Bx_below hb p0, diff3_Chunks.Bx_below hb p1, diff3_Chunks.Bx_below hb p2⟩
 case hIb =>
  rintro pre A A' ⟨h1, v, rs, h2, h3, h4, h5, h6, h7⟩ hb
  exact ⟨diff3_Chunks.belowTr hb h1, v, rs, h2, diff3_Chunks.Bx_below hb h3, Kd.R_below h4 hb, diff3_Chunks.Bx_below hb h5, diff3_Chunks.Bx_below hb h6, diff3_Chunks.Bx_below hb h7⟩
 case hIs =>
  rintro pre A b cells i u hb0 ⟨h1, v, rs, h2, h3, h4, h5, h6, h7⟩ hb
  exact ⟨h1.setCell (p := ⟨b, i, none⟩) (by show w.heap.size ≤ b; omega) u, v, rs, h2, diff3_Chunks.Bx_far h3 hb (by decide) u, diff3_Chunks.Rk_step h4 (fun k cs hc => Below.heap_setCell _ _ _ _ (by intro e; have e : k = b := e; rw [e, hb] at hc; cases hc)), diff3_Chunks.Bx_far h5 hb (by decide) u, diff3_Chunks.Bx_far h6 hb (by decide) u, diff3_Chunks.Bx_far h7 hb (by decide) u⟩
 case hIp =>
  rintro pre A l o o' ⟨h1, v, rs, h2, h3, h4, h5, h6, h7⟩ hl hlo ho
  have key : ∀ (k : Nat) (cs : Array Value) (t : TypeId), A.heap[k]? = some (.cells cs t (0, 0)) → (A.putObj l o').heap[k]? = A.heap[k]? := fun k cs t hc => World.putObj_heap_other (by rintro rfl; rw [hlo] at hc; cases hc; cases ho)
  exact ⟨h1.trans ⟨rfl, rfl, rfl, by simp, fun k hk => World.putObj_heap_other (by omega)⟩, v, rs, h2, (key _ _ _ h3).trans h3, diff3_Chunks.Rk_step h4 (fun k cs hc => key _ _ _ hc), (key _ _ _ h5).trans h5, (key _ _ _ h6).trans h6, (key _ _ _ h7).trans h7⟩
 case hAp =>
  rintro x a' A l o o' ⟨B8, B9, h1, h2, h3⟩ hl hlo ho
  have key : ∀ (k : Nat) (cs : Array Value) (t : TypeId), A.heap[k]? = some (.cells cs t (0, 0)) → (A.putObj l o').heap[k]? = A.heap[k]? := fun k cs t hc => World.putObj_heap_other (by rintro rfl; rw [hlo] at hc; cases hc; cases ho)
  exact ⟨B8, B9, h1, (key _ _ _ h2).trans h2, (key _ _ _ h3).trans h3⟩
 case assign =>
  intro l x pre W K hI hK
  unfold diff3_Chunks.e3
  obtain ⟨h1, v, rs, h2, h3, h4, h5, h6, h7⟩ := hI
  have go : ∀ (c1 c2 : Obj), Below W.heap.size W ((W.alloc c1).alloc c2) := fun c1 c2 => below_alloc (below_alloc (Below.refl _ _) _) _
  have n1 : ∀ (c1 c2 : Obj), ((W.alloc c1).alloc c2).heap[W.heap.size]? = some c1 := fun c1 c2 => (Below.heap_alloc _ _ _ (by simp)).trans (World.alloc_heap_new W c1)
  have n2 : ∀ (c1 c2 : Obj), ((W.alloc c1).alloc c2).heap[W.heap.size + 1]? = some c2 := fun c1 c2 => by
   have := World.alloc_heap_new (W.alloc c1) c2
   rw [World.size_alloc] at this; exact this
  have G := Lib.hid go
  have N1 := Lib.hid n1
  have N2 := Lib.hid n2
  clear go n1 n2
  gi_wp2
  have hb := G.out
  exact hK _ _ ⟨W.heap.size, W.heap.size + 1, rfl, N1.out _ _, N2.out _ _⟩ ((KeepsOthers.alloc _ _).trans (KeepsOthers.alloc _ _)) (diff3_Chunks.Kp_below (hb _ _))
   ⟨diff3_Chunks.belowTr (hb _ _) h1, v, rs, h2, diff3_Chunks.Bx_below (hb _ _) h3, Kd.R_below h4 (hb _ _), diff3_Chunks.Bx_below (hb _ _) h5, diff3_Chunks.Bx_below (hb _ _) h6, diff3_Chunks.Bx_below (hb _ _) h7⟩
 case body =>
  rintro l pre x a' W ⟨h1, v, rs, h2, h3, h4, h5, h6, h7⟩ ⟨B8, B9, rfl, t8, t9⟩ hpre
  obtain ⟨s, hs⟩ := diff3_Chunks.pieces_pre hpre h
  have hsn := diff3_Chunks.pieces_snoc hs h2
  have hrl := diff3_Chunks.pieces_length h2
  have hpl : pre.length + 1 ≤ 1000000000 := by
   have := hpre.length_le
   rw [List.length_append] at this
   exact Nat.le_trans this hal
  clear hpre h h2
  obtain ⟨⟨fo, fa, fb⟩, to_, ta, tb⟩ := x
  unfold diff3_Chunks.piece at hs
  split at hs
  case isFalse => cases hs
  rename_i hg
  dsimp only at hg hs t8 t9
  obtain ⟨g0, g1, g2, g3, g4, g5, g6, g7, g8⟩ := hg
  obtain ⟨q, hq, rfl⟩ := Option.map_eq_some_iff.1 hs
  clear hs
  unfold diff3_Chunks.e3
  dsimp only
  obtain ⟨i0, hi0, _, hsz0, _⟩ := info_parts info3
  obtain ⟨Ax_, hcutA, rA, hA3⟩ := print_mid_of (P := Try.prog) (Value.int .i64) 0 22 3 .i64 .i64 Try.underlying22 hi0 hsz0 A0 c0 l0 fo to_ g0 g1 g2 hs0
  obtain ⟨Ay_, hcutB, rB, hB3⟩ := print_mid_of (P := Try.prog) (Value.int .i64) 0 22 3 .i64 .i64 Try.underlying22 hi0 hsz0 A1 c1 l1 fa ta g3 g4 g5 hs1
  obtain ⟨Az_, hcutC, rC, hC3⟩ := print_mid_of (P := Try.prog) (Value.int .i64) 0 22 3 .i64 .i64 Try.underlying22 hi0 hsz0 A2 c2 l2 fb tb g6 g7 g8 hs2
  have kA := Kd.C_of_reads (h1 := fun _ => rfl) (rA _ (Kd.reads_of_C hc0))
  have kB := Kd.C_of_reads (h1 := fun _ => rfl) (rB _ (Kd.reads_of_C hc1))
  have kC := Kd.C_of_reads (h1 := fun _ => rfl) (rC _ (Kd.reads_of_C hc2))
  obtain ⟨xa, hxa⟩ : ∃ y, (l0.take to_.toNat).drop fo.toNat = y := ⟨_, rfl⟩
  obtain ⟨xb, hxb⟩ : ∃ y, (l1.take ta.toNat).drop fa.toNat = y := ⟨_, rfl⟩
  obtain ⟨xc, hxc⟩ : ∃ y, (l2.take tb.toNat).drop fb.toNat = y := ⟨_, rfl⟩
  rw [hxa] at hcutA kA hA3 hq
  rw [hxb] at hcutB kB hB3 hq
  rw [hxc] at hcutC kC hC3 hq
  clear hxa hxb hxc
  clear rA rB rC hi0 hsz0 g0 g1 g2 g3 g4 g5 g6 g7 g8 hc0 hc1 hc2 z0 z1 z2 hall hal
  refine wpIn_block ?_
  refine wpIn_region_any hm ?_
  refine round_any ?_ ?_ _ _ _ _ ?_
  ·rintro ⟨a, w', h⟩
   exact h
  ·exact diff3_Chunks.no_defer (by kernel_rfl)
  change wpAny _ _ _ _ _ _ _ (World.drew _)
  refine wpAny_of_last (S := fun w' => w'.cell? ⟨B7, 0, none⟩ = some v ∧ w'.cell? ⟨w.heap.size, 0, none⟩ = some (.slice A0 l0.length c0) ∧ w'.cell? ⟨B4, 0, none⟩ = some (.slice A1 l1.length c1) ∧ w'.cell? ⟨B5, 0, none⟩ = some (.slice A2 l2.length c2) ∧ w'.cell? ⟨B8, 0, none⟩ = some (.int .i64 fo) ∧ w'.cell? ⟨B8, 1, none⟩ = some (.int .i64 fa) ∧ w'.cell? ⟨B8, 2, none⟩ = some (.int .i64 fb) ∧ w'.cell? ⟨B9, 0, none⟩ = some (.int .i64 to_) ∧ w'.cell? ⟨B9, 1, none⟩ = some (.int .i64 ta) ∧ w'.cell? ⟨B9, 2, none⟩ = some (.int .i64 tb)) (ds := [37, 38]) _ _ _ _ ?_
  have hHeld : (fun w' => w'.cell? ⟨B7, 0, none⟩ = some v ∧ w'.cell? ⟨w.heap.size, 0, none⟩ = some (.slice A0 l0.length c0) ∧ w'.cell? ⟨B4, 0, none⟩ = some (.slice A1 l1.length c1) ∧ w'.cell? ⟨B5, 0, none⟩ = some (.slice A2 l2.length c2) ∧ w'.cell? ⟨B8, 0, none⟩ = some (.int .i64 fo) ∧ w'.cell? ⟨B8, 1, none⟩ = some (.int .i64 fa) ∧ w'.cell? ⟨B8, 2, none⟩ = some (.int .i64 fb) ∧ w'.cell? ⟨B9, 0, none⟩ = some (.int .i64 to_) ∧ w'.cell? ⟨B9, 1, none⟩ = some (.int .i64 ta) ∧ w'.cell? ⟨B9, 2, none⟩ = some (.int .i64 tb)) W.drew := ⟨h3.cell, h5.cell, h6.cell, h7.cell, t8.cells.1, t8.cells.2.1, t8.cells.2.2, t9.cells.1, t9.cells.2.1, t9.cells.2.2⟩
  have dB : Below w.heap.size w W.drew := h1.drew
  change wpAnyLast _ _ _ _ _ _ 39 #[false, false, false, false, false, false, false, false, false, false, false, false, false, false, false, false, false, false, false, false, false, false, false, false, false, false, false, false, false, false, false, false, false, false, false, false, false, false, false] _ _
  obtain ⟨Wd, hWd⟩ : ∃ x, W.drew = x := ⟨_, rfl⟩
  rw [hWd] at hHeld dB ⊢
  have HW := Lib.hid hWd
  clear hWd
  refine take_ (i := 0) (N := some 16) (v := ?_) (a' := ?_) #[true, false, false, false, false, false, false, false, false, false, false, false, false, false, false, false, false, false, false, false, false, false, false, false, false, false, false, false, false, false, false, false, false, false, false, false, false, false, false] rfl rfl (by kernel_rfl) (fun _ _ _ h => h) (Or.inl ⟨by rfl, ?_⟩) hHeld ?_ ?_
  rotate_left
  ·rintro w' ⟨s0, s1, s2, s3, s4, s5, s6, s7, s8, s9⟩
   go_simp
   with_reducible rfl
  rotate_left
  ·simp only [Act.put, List.setIfInBounds_toArray, List.set_cons_zero, List.set_cons_succ]
   rfl
  refine take_ (i := 1) (N := some 17) (v := ?_) (a' := ?_) #[true, true, false, false, false, false, false, false, false, false, false, false, false, false, false, false, false, false, false, false, false, false, false, false, false, false, false, false, false, false, false, false, false, false, false, false, false, false, false] rfl rfl (by kernel_rfl) (fun _ _ _ h => h) (Or.inl ⟨by rfl, ?_⟩) hHeld ?_ ?_
  rotate_left
  ·rintro w' ⟨s0, s1, s2, s3, s4, s5, s6, s7, s8, s9⟩
   go_simp
   with_reducible rfl
  rotate_left
  ·simp only [Act.put, List.setIfInBounds_toArray, List.set_cons_zero, List.set_cons_succ]
   rfl
  refine take_ (i := 2) (N := some 18) (v := ?_) (a' := ?_) #[true, true, true, false, false, false, false, false, false, false, false, false, false, false, false, false, false, false, false, false, false, false, false, false, false, false, false, false, false, false, false, false, false, false, false, false, false, false, false] rfl rfl (by kernel_rfl) (fun _ _ _ h => h) (Or.inl ⟨by rfl, ?_⟩) hHeld ?_ ?_
  rotate_left
  ·rintro w' ⟨s0, s1, s2, s3, s4, s5, s6, s7, s8, s9⟩
   go_simp
   with_reducible rfl
  rotate_left
  ·simp only [Act.put, List.setIfInBounds_toArray, List.set_cons_zero, List.set_cons_succ]
   rfl
  refine take_ (i := 3) (N := some 19) (v := ?_) (a' := ?_) #[true, true, true, true, false, false, false, false, false, false, false, false, false, false, false, false, false, false, false, false, false, false, false, false, false, false, false, false, false, false, false, false, false, false, false, false, false, false, false] rfl rfl (by kernel_rfl) (fun _ _ _ h => h) (Or.inl ⟨by rfl, ?_⟩) hHeld ?_ ?_
  rotate_left
  ·rintro w' ⟨s0, s1, s2, s3, s4, s5, s6, s7, s8, s9⟩
   go_simp
   with_reducible rfl
  rotate_left
  ·simp only [Act.put, List.setIfInBounds_toArray, List.set_cons_zero, List.set_cons_succ]
   rfl
  refine take_ (i := 4) (N := some 20) (v := ?_) (a' := ?_) #[true, true, true, true, true, false, false, false, false, false, false, false, false, false, false, false, false, false, false, false, false, false, false, false, false, false, false, false, false, false, false, false, false, false, false, false, false, false, false] rfl rfl (by kernel_rfl) (fun _ _ _ h => h) (Or.inl ⟨by rfl, ?_⟩) hHeld ?_ ?_
  rotate_left
  ·rintro w' ⟨s0, s1, s2, s3, s4, s5, s6, s7, s8, s9⟩
   go_simp
   with_reducible rfl
  rotate_left
  ·simp only [Act.put, List.setIfInBounds_toArray, List.set_cons_zero, List.set_cons_succ]
   rfl
  refine take_ (i := 5) (N := some 21) (v := ?_) (a' := ?_) #[true, true, true, true, true, true, false, false, false, false, false, false, false, false, false, false, false, false, false, false, false, false, false, false, false, false, false, false, false, false, false, false, false, false, false, false, false, false, false] rfl rfl (by kernel_rfl) (fun _ _ _ h => h) (Or.inl ⟨by rfl, ?_⟩) hHeld ?_ ?_
  rotate_left
  ·rintro w' ⟨s0, s1, s2, s3, s4, s5, s6, s7, s8, s9⟩
   go_simp
   with_reducible rfl
  rotate_left
  ·simp only [Act.put, List.setIfInBounds_toArray, List.set_cons_zero, List.set_cons_succ]
   rfl
  refine take_ (i := 6) (N := some 22) (v := ?_) (a' := ?_) #[true, true, true, true, true, true, true, false, false, false, false, false, false, false, false, false, false, false, false, false, false, false, false, false, false, false, false, false, false, false, false, false, false, false, false, false, false, false, false] rfl rfl (by kernel_rfl) (fun _ _ _ h => h) (Or.inl ⟨by rfl, ?_⟩) hHeld ?_ ?_
  rotate_left
  ·rintro w' ⟨s0, s1, s2, s3, s4, s5, s6, s7, s8, s9⟩
   go_simp
   with_reducible rfl
  rotate_left
  ·simp only [Act.put, List.setIfInBounds_toArray, List.set_cons_zero, List.set_cons_succ]
   rfl
  refine take_ (i := 7) (N := some 23) (v := ?_) (a' := ?_) #[true, true, true, true, true, true, true, true, false, false, false, false, false, false, false, false, false, false, false, false, false, false, false, false, false, false, false, false, false, false, false, false, false, false, false, false, false, false, false] rfl rfl (by kernel_rfl) (fun _ _ _ h => h) (Or.inl ⟨by rfl, ?_⟩) hHeld ?_ ?_
  rotate_left
  ·rintro w' ⟨s0, s1, s2, s3, s4, s5, s6, s7, s8, s9⟩
   go_simp
   with_reducible rfl
  rotate_left
  ·simp only [Act.put, List.setIfInBounds_toArray, List.set_cons_zero, List.set_cons_succ]
   rfl
  refine take_ (i := 8) (N := some 24) (v := ?_) (a' := ?_) #[true, true, true, true, true, true, true, true, true, false, false, false, false, false, false, false, false, false, false, false, false, false, false, false, false, false, false, false, false, false, false, false, false, false, false, false, false, false, false] rfl rfl (by kernel_rfl) (fun _ _ _ h => h) (Or.inl ⟨by rfl, ?_⟩) hHeld ?_ ?_
  rotate_left
  ·rintro w' ⟨s0, s1, s2, s3, s4, s5, s6, s7, s8, s9⟩
   go_simp
   with_reducible rfl
  rotate_left
  ·simp only [Act.put, List.setIfInBounds_toArray, List.set_cons_zero, List.set_cons_succ]
   rfl
  refine take_ (i := 9) (N := some 25) (v := ?_) (a' := ?_) #[true, true, true, true, true, true, true, true, true, true, false, false, false, false, false, false, false, false, false, false, false, false, false, false, false, false, false, false, false, false, false, false, false, false, false, false, false, false, false] rfl rfl (by kernel_rfl) (fun _ _ _ h => h) (Or.inl ⟨by rfl, ?_⟩) hHeld ?_ ?_
  rotate_left
  ·rintro w' ⟨s0, s1, s2, s3, s4, s5, s6, s7, s8, s9⟩
   go_simp
   with_reducible rfl
  rotate_left
  ·simp only [Act.put, List.setIfInBounds_toArray, List.set_cons_zero, List.set_cons_succ]
   rfl
  refine take_ (i := 10) (N := some 26) (v := ?_) (a' := ?_) #[true, true, true, true, true, true, true, true, true, true, true, false, false, false, false, false, false, false, false, false, false, false, false, false, false, false, false, false, false, false, false, false, false, false, false, false, false, false, false] rfl rfl (by kernel_rfl) (fun _ _ _ h => h) (Or.inl ⟨by rfl, ?_⟩) hHeld ?_ ?_
  rotate_left
  ·rintro w' ⟨s0, s1, s2, s3, s4, s5, s6, s7, s8, s9⟩
   go_simp
   with_reducible rfl
  rotate_left
  ·simp only [Act.put, List.setIfInBounds_toArray, List.set_cons_zero, List.set_cons_succ]
   rfl
  refine take_ (i := 11) (N := some 27) (v := ?_) (a' := ?_) #[true, true, true, true, true, true, true, true, true, true, true, true, false, false, false, false, false, false, false, false, false, false, false, false, false, false, false, false, false, false, false, false, false, false, false, false, false, false, false] rfl rfl (by kernel_rfl) (fun _ _ _ h => h) (Or.inl ⟨by rfl, ?_⟩) hHeld ?_ ?_
  rotate_left
  ·rintro w' ⟨s0, s1, s2, s3, s4, s5, s6, s7, s8, s9⟩
   go_simp
   with_reducible rfl
  rotate_left
  ·simp only [Act.put, List.setIfInBounds_toArray, List.set_cons_zero, List.set_cons_succ]
   rfl
  refine take_ (i := 12) (N := some 28) (v := ?_) (a' := ?_) #[true, true, true, true, true, true, true, true, true, true, true, true, true, false, false, false, false, false, false, false, false, false, false, false, false, false, false, false, false, false, false, false, false, false, false, false, false, false, false] rfl rfl (by kernel_rfl) (fun _ _ _ h => h) (Or.inl ⟨by rfl, ?_⟩) hHeld ?_ ?_
  rotate_left
  ·rintro w' ⟨s0, s1, s2, s3, s4, s5, s6, s7, s8, s9⟩
   go_simp
   with_reducible rfl
  rotate_left
  ·simp only [Act.put, List.setIfInBounds_toArray, List.set_cons_zero, List.set_cons_succ]
   rfl
  refine take_ (i := 13) (N := some 29) (v := ?_) (a' := ?_) #[true, true, true, true, true, true, true, true, true, true, true, true, true, true, false, false, false, false, false, false, false, false, false, false, false, false, false, false, false, false, false, false, false, false, false, false, false, false, false] rfl rfl (by kernel_rfl) (fun _ _ _ h => h) (Or.inl ⟨by rfl, ?_⟩) hHeld ?_ ?_
  rotate_left
  ·rintro w' ⟨s0, s1, s2, s3, s4, s5, s6, s7, s8, s9⟩
   go_simp
   with_reducible rfl
  rotate_left
  ·simp only [Act.put, List.setIfInBounds_toArray, List.set_cons_zero, List.set_cons_succ]
   rfl
  refine take_ (i := 14) (N := some 30) (v := ?_) (a' := ?_) #[true, true, true, true, true, true, true, true, true, true, true, true, true, true, true, false, false, false, false, false, false, false, false, false, false, false, false, false, false, false, false, false, false, false, false, false, false, false, false] rfl rfl (by kernel_rfl) (fun _ _ _ h => h) (Or.inl ⟨by rfl, ?_⟩) hHeld ?_ ?_
  rotate_left
  ·rintro w' ⟨s0, s1, s2, s3, s4, s5, s6, s7, s8, s9⟩
   go_simp
   with_reducible rfl
  rotate_left
  ·simp only [Act.put, List.setIfInBounds_toArray, List.set_cons_zero, List.set_cons_succ]
   rfl
  refine take_ (i := 15) (N := some 31) (v := ?_) (a' := ?_) #[true, true, true, true, true, true, true, true, true, true, true, true, true, true, true, true, false, false, false, false, false, false, false, false, false, false, false, false, false, false, false, false, false, false, false, false, false, false, false] rfl rfl (by kernel_rfl) (fun _ _ _ h => h) (Or.inl ⟨by rfl, ?_⟩) hHeld ?_ ?_
  rotate_left
  ·rintro w' ⟨s0, s1, s2, s3, s4, s5, s6, s7, s8, s9⟩
   go_simp
   with_reducible rfl
  rotate_left
  ·simp only [Act.put, List.setIfInBounds_toArray, List.set_cons_zero, List.set_cons_succ]
   rfl
  refine take_ (i := 16) (N := some 32) (v := ?_) (a' := ?_) #[true, true, true, true, true, true, true, true, true, true, true, true, true, true, true, true, true, false, false, false, false, false, false, false, false, false, false, false, false, false, false, false, false, false, false, false, false, false, false] rfl rfl (by kernel_rfl) (fun _ _ _ h => h) (Or.inl ⟨by rfl, ?_⟩) hHeld ?_ ?_
  rotate_left
  ·rintro w' ⟨s0, s1, s2, s3, s4, s5, s6, s7, s8, s9⟩
   go_simp
   with_reducible rfl
  rotate_left
  ·simp only [Act.put, List.setIfInBounds_toArray, List.set_cons_zero, List.set_cons_succ]
   rfl
  refine take_ (i := 17) (N := some 33) (v := ?_) (a' := ?_) #[true, true, true, true, true, true, true, true, true, true, true, true, true, true, true, true, true, true, false, false, false, false, false, false, false, false, false, false, false, false, false, false, false, false, false, false, false, false, false] rfl rfl (by kernel_rfl) (fun _ _ _ h => h) (Or.inl ⟨by rfl, ?_⟩) hHeld ?_ ?_
  rotate_left
  ·rintro w' ⟨s0, s1, s2, s3, s4, s5, s6, s7, s8, s9⟩
   go_simp
   with_reducible rfl
  rotate_left
  ·simp only [Act.put, List.setIfInBounds_toArray, List.set_cons_zero, List.set_cons_succ]
   rfl
  refine take_ (i := 18) (N := some 34) (v := ?_) (a' := ?_) #[true, true, true, true, true, true, true, true, true, true, true, true, true, true, true, true, true, true, true, false, false, false, false, false, false, false, false, false, false, false, false, false, false, false, false, false, false, false, false] rfl rfl (by kernel_rfl) (fun _ _ _ h => h) (Or.inl ⟨by rfl, ?_⟩) hHeld ?_ ?_
  rotate_left
  ·rintro w' ⟨s0, s1, s2, s3, s4, s5, s6, s7, s8, s9⟩
   go_simp
   with_reducible rfl
  rotate_left
  ·simp only [Act.put, List.setIfInBounds_toArray, List.set_cons_zero, List.set_cons_succ]
   rfl
  refine take_ (i := 20) (N := some 36) (v := ?_) (a' := ?_) #[true, true, true, true, true, true, true, true, true, true, true, true, true, true, true, true, true, true, true, false, true, false, false, false, false, false, false, false, false, false, false, false, false, false, false, false, false, false, false] rfl rfl (by kernel_rfl) (fun _ _ _ h => h) (Or.inl ⟨by rfl, ?_⟩) hHeld ?_ ?_
  rotate_left
  ·rintro w' ⟨s0, s1, s2, s3, s4, s5, s6, s7, s8, s9⟩
   go_simp
   with_reducible rfl
  rotate_left
  ·simp only [Act.put, List.setIfInBounds_toArray, List.set_cons_zero, List.set_cons_succ]
   rfl
  refine take_ (i := 21) (N := some 37) (v := ?_) (a' := ?_) #[true, true, true, true, true, true, true, true, true, true, true, true, true, true, true, true, true, true, true, false, true, true, false, false, false, false, false, false, false, false, false, false, false, false, false, false, false, false, false] rfl rfl (by kernel_rfl) (fun _ _ _ h => h) (Or.inl ⟨by rfl, ?_⟩) hHeld ?_ ?_
  rotate_left
  ·rintro w' ⟨s0, s1, s2, s3, s4, s5, s6, s7, s8, s9⟩
   go_simp
   with_reducible rfl
  rotate_left
  ·simp only [Act.put, List.setIfInBounds_toArray, List.set_cons_zero, List.set_cons_succ]
   rfl
  refine take_ (i := 22) (N := some 38) (v := ?_) (a' := ?_) #[true, true, true, true, true, true, true, true, true, true, true, true, true, true, true, true, true, true, true, false, true, true, true, false, false, false, false, false, false, false, false, false, false, false, false, false, false, false, false] rfl rfl (by kernel_rfl) (fun _ _ _ h => h) (Or.inl ⟨by rfl, ?_⟩) hHeld ?_ ?_
  rotate_left
  ·rintro w' ⟨s0, s1, s2, s3, s4, s5, s6, s7, s8, s9⟩
   go_simp
   with_reducible rfl
  rotate_left
  ·simp only [Act.put, List.setIfInBounds_toArray, List.set_cons_zero, List.set_cons_succ]
   rfl
  refine take_ (i := 23) (N := some 39) (v := ?_) (a' := ?_) #[true, true, true, true, true, true, true, true, true, true, true, true, true, true, true, true, true, true, true, false, true, true, true, true, false, false, false, false, false, false, false, false, false, false, false, false, false, false, false] rfl rfl (by kernel_rfl) (fun _ _ _ h => h) (Or.inl ⟨by rfl, ?_⟩) hHeld ?_ ?_
  rotate_left
  ·rintro w' ⟨s0, s1, s2, s3, s4, s5, s6, s7, s8, s9⟩
   go_simp
   with_reducible rfl
  rotate_left
  ·simp only [Act.put, List.setIfInBounds_toArray, List.set_cons_zero, List.set_cons_succ]
   rfl
  refine take_ (i := 24) (N := some 40) (v := ?_) (a' := ?_) #[true, true, true, true, true, true, true, true, true, true, true, true, true, true, true, true, true, true, true, false, true, true, true, true, true, false, false, false, false, false, false, false, false, false, false, false, false, false, false] rfl rfl (by kernel_rfl) (fun _ _ _ h => h) (Or.inl ⟨by rfl, ?_⟩) hHeld ?_ ?_
  rotate_left
  ·rintro w' ⟨s0, s1, s2, s3, s4, s5, s6, s7, s8, s9⟩
   go_simp
   with_reducible rfl
  rotate_left
  ·simp only [Act.put, List.setIfInBounds_toArray, List.set_cons_zero, List.set_cons_succ]
   rfl
  refine take_ (i := 25) (N := some 41) (v := ?_) (a' := ?_) #[true, true, true, true, true, true, true, true, true, true, true, true, true, true, true, true, true, true, true, false, true, true, true, true, true, true, false, false, false, false, false, false, false, false, false, false, false, false, false] rfl rfl (by kernel_rfl) (fun _ _ _ h => h) (Or.inl ⟨by rfl, ?_⟩) hHeld ?_ ?_
  rotate_left
  ·rintro w' ⟨s0, s1, s2, s3, s4, s5, s6, s7, s8, s9⟩
   go_simp
   with_reducible rfl
  rotate_left
  ·simp only [Act.put, List.setIfInBounds_toArray, List.set_cons_zero, List.set_cons_succ]
   rfl
  refine take_ (i := 26) (N := some 42) (v := ?_) (a' := ?_) #[true, true, true, true, true, true, true, true, true, true, true, true, true, true, true, true, true, true, true, false, true, true, true, true, true, true, true, false, false, false, false, false, false, false, false, false, false, false, false] rfl rfl (by kernel_rfl) (fun _ _ _ h => h) (Or.inl ⟨by rfl, ?_⟩) hHeld ?_ ?_
  rotate_left
  ·rintro w' ⟨s0, s1, s2, s3, s4, s5, s6, s7, s8, s9⟩
   go_simp
   with_reducible rfl
  rotate_left
  ·simp only [Act.put, List.setIfInBounds_toArray, List.set_cons_zero, List.set_cons_succ]
   rfl
  refine take_ (i := 27) (N := some 43) (v := ?_) (a' := ?_) #[true, true, true, true, true, true, true, true, true, true, true, true, true, true, true, true, true, true, true, false, true, true, true, true, true, true, true, true, false, false, false, false, false, false, false, false, false, false, false] rfl rfl (by kernel_rfl) (fun _ _ _ h => h) (Or.inl ⟨by rfl, ?_⟩) hHeld ?_ ?_
  rotate_left
  ·rintro w' ⟨s0, s1, s2, s3, s4, s5, s6, s7, s8, s9⟩
   go_simp
   with_reducible rfl
  rotate_left
  ·simp only [Act.put, List.setIfInBounds_toArray, List.set_cons_zero, List.set_cons_succ]
   rfl
  refine take_ (i := 28) (N := some 44) (v := ?_) (a' := ?_) #[true, true, true, true, true, true, true, true, true, true, true, true, true, true, true, true, true, true, true, false, true, true, true, true, true, true, true, true, true, false, false, false, false, false, false, false, false, false, false] rfl rfl (by kernel_rfl) (fun _ _ _ h => h) (Or.inl ⟨by rfl, ?_⟩) hHeld ?_ ?_
  rotate_left
  ·rintro w' ⟨s0, s1, s2, s3, s4, s5, s6, s7, s8, s9⟩
   go_simp
   with_reducible rfl
  rotate_left
  ·simp only [Act.put, List.setIfInBounds_toArray, List.set_cons_zero, List.set_cons_succ]
   rfl
  refine take_ (i := 29) (N := some 45) (v := ?_) (a' := ?_) #[true, true, true, true, true, true, true, true, true, true, true, true, true, true, true, true, true, true, true, false, true, true, true, true, true, true, true, true, true, true, false, false, false, false, false, false, false, false, false] rfl rfl (by kernel_rfl) (fun _ _ _ h => h) (Or.inl ⟨by rfl, ?_⟩) hHeld ?_ ?_
  rotate_left
  ·rintro w' ⟨s0, s1, s2, s3, s4, s5, s6, s7, s8, s9⟩
   go_simp
   with_reducible rfl
  rotate_left
  ·simp only [Act.put, List.setIfInBounds_toArray, List.set_cons_zero, List.set_cons_succ]
   rfl
  refine take_ (i := 30) (N := some 46) (v := ?_) (a' := ?_) #[true, true, true, true, true, true, true, true, true, true, true, true, true, true, true, true, true, true, true, false, true, true, true, true, true, true, true, true, true, true, true, false, false, false, false, false, false, false, false] rfl rfl (by kernel_rfl) (fun _ _ _ h => h) (Or.inl ⟨by rfl, ?_⟩) hHeld ?_ ?_
  rotate_left
  ·rintro w' ⟨s0, s1, s2, s3, s4, s5, s6, s7, s8, s9⟩
   go_simp
   with_reducible rfl
  rotate_left
  ·simp only [Act.put, List.setIfInBounds_toArray, List.set_cons_zero, List.set_cons_succ]
   rfl
  refine take_ (i := 31) (N := some 47) (v := ?_) (a' := ?_) #[true, true, true, true, true, true, true, true, true, true, true, true, true, true, true, true, true, true, true, false, true, true, true, true, true, true, true, true, true, true, true, true, false, false, false, false, false, false, false] rfl rfl (by kernel_rfl) (fun _ _ _ h => h) (Or.inl ⟨by rfl, ?_⟩) hHeld ?_ ?_
  rotate_left
  ·rintro w' ⟨s0, s1, s2, s3, s4, s5, s6, s7, s8, s9⟩
   go_simp
   with_reducible rfl
  rotate_left
  ·simp only [Act.put, List.setIfInBounds_toArray, List.set_cons_zero, List.set_cons_succ]
   rfl
  refine take_ (i := 32) (N := some 48) (v := ?_) (a' := ?_) #[true, true, true, true, true, true, true, true, true, true, true, true, true, true, true, true, true, true, true, false, true, true, true, true, true, true, true, true, true, true, true, true, true, false, false, false, false, false, false] rfl rfl (by kernel_rfl) (fun _ _ _ h => h) (Or.inl ⟨by rfl, ?_⟩) hHeld ?_ ?_
  rotate_left
  ·rintro w' ⟨s0, s1, s2, s3, s4, s5, s6, s7, s8, s9⟩
   go_simp
   with_reducible rfl
  rotate_left
  ·simp only [Act.put, List.setIfInBounds_toArray, List.set_cons_zero, List.set_cons_succ]
   rfl
  refine take_ (i := 33) (N := some 49) (v := ?_) (a' := ?_) #[true, true, true, true, true, true, true, true, true, true, true, true, true, true, true, true, true, true, true, false, true, true, true, true, true, true, true, true, true, true, true, true, true, true, false, false, false, false, false] rfl rfl (by kernel_rfl) (fun _ _ _ h => h) (Or.inl ⟨by rfl, ?_⟩) hHeld ?_ ?_
  rotate_left
  ·rintro w' ⟨s0, s1, s2, s3, s4, s5, s6, s7, s8, s9⟩
   go_simp
   with_reducible rfl
  rotate_left
  ·simp only [Act.put, List.setIfInBounds_toArray, List.set_cons_zero, List.set_cons_succ]
   rfl
  refine take_ (i := 34) (N := some 50) (v := ?_) (a' := ?_) #[true, true, true, true, true, true, true, true, true, true, true, true, true, true, true, true, true, true, true, false, true, true, true, true, true, true, true, true, true, true, true, true, true, true, true, false, false, false, false] rfl rfl (by kernel_rfl) (fun _ _ _ h => h) (Or.inl ⟨by rfl, ?_⟩) hHeld ?_ ?_
  rotate_left
  ·rintro w' ⟨s0, s1, s2, s3, s4, s5, s6, s7, s8, s9⟩
   go_simp
   with_reducible rfl
  rotate_left
  ·simp only [Act.put, List.setIfInBounds_toArray, List.set_cons_zero, List.set_cons_succ]
   rfl
  refine one_ (i := 19) (N := some 35) #[true, true, true, true, true, true, true, true, true, true, true, true, true, true, true, true, true, true, true, true, true, true, true, true, true, true, true, true, true, true, true, true, true, true, true, false, false, false, false] rfl rfl (by kernel_rfl) (by decide) (fun K hK => ?_)
  refine goes_ Try.func24 (by kernel_rfl) rfl #[.slice Ax_ xa.length (c0 - fo.toNat), .slice Ay_ xb.length (c1 - fa.toNat), .slice Az_ xc.length (c2 - fb.toNat)] (by rfl) rfl rfl (by simp only [List.map_toArray, List.map_cons, List.map_nil]; rfl) ?_
  refine (diff3_kind.calls k _ _ _ _ _ _ _ _ _ q Wd (Kd.C_below kA dB) hA3 (Kd.C_below kB dB) hB3 (Kd.C_below kC dB) hC3 hq).mono ?_
  rintro e w' ⟨rfl, ⟨nd, rfl⟩⟩
  refine ⟨_, rfl, ?_⟩
  refine hK.out _ _ hHeld (fun hHeld => ?_)
  clear hK K
  refine norm_ (a' := ?_) ?_ ?_
  rotate_left
  ·show Act.put _ (some 35) _ = _
   simp only [Act.put, List.setIfInBounds_toArray, List.set_cons_zero, List.set_cons_succ]
   rfl
  refine pure_ (i := 35) (N := some 51) (v := ?_) (a' := ?_) #[true, true, true, true, true, true, true, true, true, true, true, true, true, true, true, true, true, true, true, true, true, true, true, true, true, true, true, true, true, true, true, true, true, true, true, true, false, false, false] rfl rfl (by kernel_rfl) (fun _ _ _ h => h) (Or.inl ⟨by rfl, ?_⟩) ?_ ?_
  rotate_left
  ·intro w'
   go_simp
   with_reducible rfl
  rotate_left
  ·simp only [Act.put, List.setIfInBounds_toArray, List.set_cons_zero, List.set_cons_succ]
   rfl
  refine one_ (i := 36) (N := some 52) #[true, true, true, true, true, true, true, true, true, true, true, true, true, true, true, true, true, true, true, true, true, true, true, true, true, true, true, true, true, true, true, true, true, true, true, true, true, false, false] rfl rfl (by kernel_rfl) (by decide) (fun K hK => ?_)
  refine value_ (w1 := ?_) (v := ?_) (by rfl) rfl ?_ ?_
  rotate_left 2
  ·go_simp
   constructor
   ·rfl
   ·rfl
  refine hK.out _ _ ?_ (fun hHeld => ?_)
  ·obtain ⟨s0, s1, s2, s3, s4, s5, s6, s7, s8, s9⟩ := hHeld
   have hal := below_alloc (Below.refl _ (World.drewN Wd nd))
   exact ⟨Kd.cell_heap (hal _).block s0, Kd.cell_heap (hal _).block s1, Kd.cell_heap (hal _).block s2, Kd.cell_heap (hal _).block s3, Kd.cell_heap (hal _).block s4, Kd.cell_heap (hal _).block s5, Kd.cell_heap (hal _).block s6, Kd.cell_heap (hal _).block s7, Kd.cell_heap (hal _).block s8, Kd.cell_heap (hal _).block s9⟩
  clear hK K
  refine norm_ (a' := ?_) ?_ ?_
  rotate_left
  ·show Act.put _ (some 52) _ = _
   simp only [Act.put, List.setIfInBounds_toArray, List.set_cons_zero, List.set_cons_succ]
   rfl
  have hOd : Boxed (World.drewN Wd nd) B7 25 v := by rw [← HW.out]; exact h3
  have hRd : Kd.R k41 41 (World.drewN Wd nd) w.heap.size (fun _ => True) v rs := by rw [← HW.out]; exact Kd.R_drewN (Kd.R_drew h4) nd
  have hBd : Below w.heap.size w (World.drewN Wd nd) := Zd dB nd
  have hlt : (rs.length + 1) * 56 ≤ 140737488355328 := by rw [hrl]; omega
  refine last_ (i := 37) (N := some 53) #[true, true, true, true, true, true, true, true, true, true, true, true, true, true, true, true, true, true, true, true, true, true, true, true, true, true, true, true, true, true, true, true, true, true, true, true, true, true, false] rfl rfl (by kernel_rfl) (by decide) (fun K hK => ?_)
  refine Kd.R_append_step k41 (w0 := w) (W := World.drewN Wd nd) w.heap.size (by rfl) (.tmp 16) (.tmp 52) 25 41 (.agg #[(.int .i64 0), (.int .i64 0), (.int .i64 0), (.int .i64 0), (.int .i64 0), (.int .i64 0), (.int .i64 0)]) 56 rfl Try.underlying25 info41 rfl (by decide) (by decide) v rs (⟨q, (⟨fo, to_⟩ : S39), (⟨fa, ta⟩ : S39), (⟨fb, tb⟩ : S39)⟩ : S41) [.int .i64 q, .int .i64 fo, .int .i64 to_, .int .i64 fa, .int .i64 ta, .int .i64 fb, .int .i64 tb] (fun _ => True) (fun _ => False) rfl rfl (k41_mkM _ _ _ (⟨q, (⟨fo, to_⟩ : S39), (⟨fa, ta⟩ : S39), (⟨fb, tb⟩ : S39)⟩ : S41)) (fun _ hk => hk.elim) (fun _ _ => trivial) hRd hBd hBd.size hlt ?_
  intro v1 W1 hR1 hB1 hg1 hat1
  refine hK.out _ _ ?_
  clear hK K
  refine norm_ (a' := ?_) ?_ ?_
  rotate_left
  ·show Act.put _ (some 53) _ = _
   simp only [Act.put, List.setIfInBounds_toArray, List.set_cons_zero, List.set_cons_succ]
   rfl
  have hne : some B7 ≠ v.ownBlock := fun e => by
   obtain ⟨cs, hcs⟩ := diff3_Chunks.Rk_own hRd B7 e.symm
   rw [show (World.drewN Wd nd).heap[B7]? = _ from hOd] at hcs; cases hcs
  have hO1 : Boxed W1 B7 25 v := hOd.kept hg1 hne
  have co := hO1.cell
  have fo_ := hO1.frozen
  refine last_ (i := 38) (N := none) #[true, true, true, true, true, true, true, true, true, true, true, true, true, true, true, true, true, true, true, true, true, true, true, true, true, true, true, true, true, true, true, true, true, true, true, true, true, true, true] rfl rfl (by kernel_rfl) (by decide) (fun K hK => ?_)
  obtain ⟨Aq_, cq_, rfl⟩ := Kd.R_slice hR1
  obtain ⟨nq_, hnq⟩ : ∃ n, (rs ++ [(⟨q, (⟨fo, to_⟩ : S39), (⟨fa, ta⟩ : S39), (⟨fb, tb⟩ : S39)⟩ : S41)]).length = n := ⟨_, rfl⟩
  rw [hnq] at hR1 ⊢
  clear hnq
  go_simp
  refine hK.out _ _ ?_
  clear hK K
  refine done_ (by kernel_rfl) ?_
  have hWk : ∀ (k' : Nat) (cs : Array Value) (t : TypeId), t ≠ 25 → t ≠ 41 → W.heap[k']? = some (.cells cs t (0, 0)) → (W1.setCell ⟨B7, 0, none⟩ (.slice Aq_ nq_ cq_)).heap[k']? = W.heap[k']? := fun k' cs t ht1 ht2 hc => by
   have hWd : (World.drewN Wd nd).heap[k']? = W.heap[k']? := by rw [← HW.out]; rfl
   have hn1 : k' ≠ B7 := fun e => by rw [e, show W.heap[B7]? = _ from h3] at hc; cases hc; exact ht1 rfl
   have hn2 : some k' ≠ v.ownBlock := fun e => by
    obtain ⟨cs', hcs⟩ := diff3_Chunks.Rk_own hRd k' e.symm
    rw [hWd, hc] at hcs; cases hcs; exact ht2 rfl
   exact (Below.heap_setCell _ _ _ _ hn1).trans ((hg1.block k' (by rw [← hWd] at hc; exact (Array.getElem?_eq_some_iff.1 hc).1) hn2).trans hWd)
  have hown : ∀ k', v.ownBlock = some k' → ∃ cs, W.heap[k']? = some (.cells cs 41 (0, 0)) := fun k' e => by
   obtain ⟨cs', hcs⟩ := diff3_Chunks.Rk_own hRd k' e
   exact ⟨cs', by rw [← hcs, ← HW.out]; rfl⟩
  have hKO : KeepsOthers W (W1.setCell ⟨B7, 0, none⟩ (.slice Aq_ nq_ cq_)) := by
   have hWd : ∀ k' : Nat, (World.drewN Wd nd).heap[k']? = W.heap[k']? := fun k' => by rw [← HW.out]; rfl
   refine KeepsOthers.trans ⟨?_, ?_⟩ (KeepsOthers.setCell W1 ⟨B7, 0, none⟩ _)
   ·have hs1 := hg1.size
    rw [← HW.out] at hs1
    exact hs1
   ·intro k' o' hk' ho'
    have hlt' : k' < (World.drewN Wd nd).heap.size := by rw [← hWd] at hk'; exact (Array.getElem?_eq_some_iff.1 hk').1
    rw [hg1.block k' hlt' (fun e => by obtain ⟨cs', hcs⟩ := hown k' e.symm; rw [hcs] at hk'; cases hk'; cases ho'), hWd]; exact hk'
  refine ⟨hKO, fun k' cs t ht hc => hWk k' cs t (by rcases ht with rfl | rfl | rfl <;> decide) (by rcases ht with rfl | rfl | rfl <;> decide) hc, hB1.setCell (p := ⟨B7, 0, none⟩) (by show w.heap.size ≤ B7; omega) _, _, _, hsn, hO1.set _, ?_, (hWk _ _ _ (by decide) (by decide) h5).trans h5, (hWk _ _ _ (by decide) (by decide) h6).trans h6, (hWk _ _ _ (by decide) (by decide) h7).trans h7⟩
  exact diff3_Chunks.Rk_step hR1 (fun k' cs hc => Below.heap_setCell _ _ _ _ (fun e => by have e : k' = B7 := e; rw [e, show W1.heap[B7]? = _ from hO1] at hc; cases hc))
 case done => 
  rintro D ys W hD rfl ⟨h1, v, rs, h2, h3, h4, h5, h6, h7⟩ hd
  rw [h] at h2
  cases h2
  have hc := h3.cell
  gi_wp2
  refine ⟨by simp, .inl ⟨_, _, rfl, run_takeDeferred hd, ?_⟩⟩
  have key : ∀ (k : Nat) (cs : Array Value) (t : TypeId), W.heap[k]? = some (.cells cs t (0, 0)) → (W.putObj D (.deferred none)).heap[k]? = W.heap[k]? := fun k cs t hc => World.putObj_heap_other (by rintro rfl; rw [hd] at hc; cases hc)
  exact ⟨_, results_tmp rfl _ _ _, v, rfl, diff3_Chunks.Rk_step h4 (fun k cs hc => key _ _ _ hc), h1.trans ⟨rfl, rfl, rfl, by simp, fun k hk => World.putObj_heap_other (by omega)⟩⟩
end
theorem diff3_Chunks.calls (k : Nat) (A0 : Option Addr) (c0 : Nat) (l0 : List Int) (A1 : Option Addr) (c1 : Nat) (l1 : List Int) (A2 : Option Addr) (c2 : Nat) (l2 : List Int) (r : List S41) (w : World) (hr0 : Kd.C (Kd.int .i64) w A0 l0.length l0) (hc0 : l0.length ≤ c0) (hr1 : Kd.C (Kd.int .i64) w A1 l1.length l1) (hc1 : l1.length ≤ c1) (hr2 : Kd.C (Kd.int .i64) w A2 l2.length l2) (hc2 : l2.length ≤ c2) (h : diff3_Chunks.f k l0 l1 l2 = some r) :
  Calls Try.prog 10 #[.slice A0 l0.length c0, .slice A1 l1.length c1, .slice A2 l2.length c2] w fun e w' => ∃ v0_ : Value, e = .returned v0_ ∧ Kd.R k41 41 w' w.heap.size (fun _ => True) v0_ r ∧ Below w.heap.size w w' :=
 callsIn_wide.1 (diff3_Chunks.run k A0 A1 A2 c0 c1 c2 l0 l1 l2 r w hr0 hc0 hr1 hc1 hr2 hc2 h)
end Go.Proofs.Yteafndooaokagaa.PDiff
