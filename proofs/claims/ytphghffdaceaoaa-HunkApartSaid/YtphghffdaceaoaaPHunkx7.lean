/- Laid by a program of this session out of the seat's translation. -/
import Derived.Test.YtphghffdaceaoaaPHunkx0
import Derived.Test.YtphghffdaceaoaaPHunkx6
namespace Go.Proofs.Ytphghffdaceaoaa.PHunk
open Go.RowKit Go.Proofs.YtphghffdaceaoaaW.PrintWords Go.Proofs.YtphghffdaceaoaaW.PrintLast Go.Proofs.YtphghffdaceaoaaW.PrintMore
attribute [local go_sem] max2_int min2_int max_two min_two max_three min_three max_four min_four   -- for this text's walks alone
set_option linter.unusedVariables false
set_option linter.unusedSimpArgs false
/-! ### hunk_Patch: function 14 -/
/-! ### a walk that was made for a function's own frame serves in a round -/
theorem rowsIn_wide {l n : Nat} {P : Program} {row : String} {args : Array Value} {w : World} {R : Value → World → Prop} (h : Rows P row args w R) : RowsIn (Fence.wide.inRound l) n P row args w R := fun c cs _ => by
 obtain ⟨v, w', r, s⟩ := h c cs
 exact ⟨v, w', r, (stepsIn_wide (P := P)).2 s⟩
theorem round_op {l n : Nat} {P : Program} {Q : Exit → Act → World → Prop} {K : Act → World → Prop} {a : Act} {w : World} {o : Oper} (hd : ∀ c, o.op ≠ .defer c) (h : o.wp P a w K Q) : o.wpIn (Fence.wide.inRound l) n P a w K Q := by
 refine ⟨fun _ _ => trivial, ?_⟩
 rw [Fence.inRound_round, Oper.semAt_some l a.eval o hd]
 unfold Oper.wp at h
 generalize (execOp a.eval o).run P w = r at h
 cases r with
 | ok x w' =>
  cases x <;> simp only [Oper.upon] at h <;> simp only [Oper.uponIn] <;>
   first
    | exact h.elim
    | exact ⟨fun h' => (nomatch h'), CallsIn.mono ((callsIn_wide.2 h).inRound l) (fun e w'' he => by cases e <;> exact he)⟩
    | exact ⟨fun h' => (nomatch h'), rowsIn_wide h⟩
    | exact h
 | halt x w' => cases x <;> simp only [Oper.upon] at h <;> simp only [Oper.uponIn] <;> first | exact h | exact h.elim
theorem round_any {l n : Nat} {P : Program} {md : Region.Mode} {ops : Array Oper} {Q : Exit → Act → World → Prop} (hQ : ¬ LetsOut Q) (hd : ∀ (i : Nat) (o : Oper), ops[i]? = some o → ∀ c, o.op ≠ .defer c) : ∀ (fuel : Nat) (listed : Array Bool) (a : Act) (w : World), wpAny P md ops Q fuel listed a w → wpAnyIn (Fence.wide.inRound l) n P md ops Q fuel listed a w
 | 0, _, _, _, h => h
 | fuel + 1, listed, a, w, h => by
  have ih := round_any (l := l) (n := n) (P := P) (md := md) (ops := ops) hQ hd fuel
  refine ⟨h.1, fun i hi => ?_⟩
  have h2 := h.2 i hi
  unfold wpOp at h2
  unfold wpOpIn
  cases ho : ops[i]? with
  | none => rw [ho] at h2; exact ih _ _ _ h2
  | some o =>
   rw [ho] at h2
   simp only at h2 ⊢
   split
   ·rename_i hw
    rw [if_pos hw] at h2
    rcases h2 with h2 | h2
    ·exact Oper.wpIn_mono (fun a' w' h' => ih _ _ _ h') (round_op (hd i o ho) h2)
    ·exact absurd h2.2 hQ
   ·rename_i hw
    rw [if_neg hw] at h2
    exact ⟨fun _ _ => trivial, ih _ _ _ h2⟩
/-! ### a range over an iterator that keeps cells of its own, all of one type T -/
section
variable {α : Type} {P : Program}
def SeqOwn (T : TypeId) (P : Program) (g : Nat) (lb : Array Value) (encs : α → Array Value) (Kp : World → World → Prop) (S Sp : List α → Prop) (w : World) : Prop :=
 ∀ (l : Nat) (J Jx : List α → World → Prop) (W : World), Below w.heap.size w W → (∀ W', Below W.heap.size W W' → J [] W') →
  (∀ pre A A', J pre A → Below A.heap.size A A' → J pre A') →
  (∀ pre A b cells i v, W.heap.size ≤ b → J pre A → A.heap[b]? = some (.cells cells T (0, 0)) → J pre (World.setCell A ⟨b, i, none⟩ v)) →
  (∀ pre x W1, J pre W1 → Sp (pre ++ [x]) → YieldAt Fence.wide 3 P l (encs x) W1 fun e W' =>
   (e = .returned (.bool true) ∧ J (pre ++ [x]) W' ∧ Kp W1 W') ∨ (e = .returned (.bool false) ∧ Jx (pre ++ [x]) W')) →
  CallsIn Fence.wide 4 P g (#[.func (.yield l) #[] #[]] ++ lb) W fun e W' => (∃ v, e = .returned v) ∧ ((∃ xs, S xs ∧ J xs W') ∨ (∃ pre, Sp pre ∧ Jx pre W'))
theorem range_own {T : TypeId} {g : Operand} {ps : Array Tmp} {assign body : Code} {Q : Exit → Act → World → Prop} {a : Act} {w : World} {gf : Nat} {lb : Array Value} (hg : a.eval g = .func (.func gf) #[] lb)
  (eg : ∀ args w, (callFunc gf args).run P w = .ok (.enter gf args) w) {encs : α → Array Value} {Kp : World → World → Prop} {S Sp : List α → Prop} (hseq : SeqOwn T P gf lb encs Kp S Sp w)
  (hKt : ∀ {A B C : World}, Kp A B → Kp B C → Kp A C) (hKb : ∀ (W : World) (l : Nat) (o o' : Obj), w.heap.size ≤ l → W.heap[l]? = some o → o.isCells = false → o.isWalk = false → Kp W (W.putObj l o')) (hps : ∀ x, (encs x).size = ps.size)
  (I : List α → World → Prop) (h0 : ∀ W', Below w.heap.size w W' → I [] W') (hIb : ∀ pre A A', I pre A → Below A.heap.size A A' → I pre A')
  (hIs : ∀ pre A b cells i v, w.heap.size ≤ b → I pre A → A.heap[b]? = some (.cells cells T (0, 0)) → I pre (World.setCell A ⟨b, i, none⟩ v))
  (hIp : ∀ pre A l o o', I pre A → w.heap.size ≤ l → A.heap[l]? = some o → o.isCells = false → I pre (World.putObj A l o'))
  (Ax : α → Act → World → Prop) (hAp : ∀ x a' A l o o', Ax x a' A → w.heap.size ≤ l → A.heap[l]? = some o → o.isCells = false → Ax x a' (World.putObj A l o'))
  (hassign : ∀ (l : Nat) (x : α) (pre : List α) (W : World) (K : Act → World → Prop), I pre W → (∀ a' W', Ax x a' W' → KeepsOthers W W' → Kp W W' → I pre W' → K a' W') →
   assign.wpIn (Fence.wide.inRound l) 3 P (Exit.then K (fun _ _ _ => False)) { tmps := (ps.zip (encs x)).foldl (fun t (p, v) => t.setIfInBounds p v) a.tmps, defers := [] } W)
  (hbody : ∀ (l : Nat) (pre : List α) (x : α) (a' : Act) (W : World), I pre W → Ax x a' W → Sp (pre ++ [x]) → body.wpIn (Fence.wide.inRound l) 3 P (Exit.then (fun _ W' => KeepsOthers W W' ∧ Kp W W' ∧ I (pre ++ [x]) W') (fun _ _ _ => False)) a' W)
  (hdone : ∀ (D : Nat) (xs : List α) (W : World), w.heap.size ≤ D → S xs → I xs W → W.heap[D]? = some (.deferred (some [])) → Q .normal { a with defers := { target := .collected D, args := #[] } :: a.defers } W) :
  (Code.rangeFunc g ps assign body).wpIn Fence.wide 5 P Q a w := by
 refine wpIn_rangeFunc ?_
 intro fn hfn
 obtain ⟨rec, hrec⟩ : ∃ rec : LoopState → Option Code → Loop, rec = fun st pe => { state := st, pending := pe, fn, tmps := a.tmps, params := ps, assign, body, defers := w.heap.size } := ⟨_, rfl⟩
 obtain ⟨W1, hW1⟩ : ∃ W1, (w.alloc (.deferred (some []))).alloc (.loop (rec .ready none)) = W1 := ⟨_, rfl⟩
 have s1 : W1.heap.size = w.heap.size + 2 := by rw [← hW1]; simp
 have hL1 : W1.heap[w.heap.size + 1]? = some (.loop (rec .ready none)) := by
  rw [← hW1]; have := World.alloc_heap_new (w.alloc (.deferred (some []))) (.loop (rec .ready none)); rwa [World.size_alloc] at this
 have hK1 : W1.heap[w.heap.size]? = some (.deferred (some [])) := by
  rw [← hW1]; exact (Below.heap_alloc _ _ _ (by simp)).trans (World.alloc_heap_new w _)
 have hB1 : Below w.heap.size w W1 := by rw [← hW1]; exact ((Below.refl _ w).alloc (Nat.le_refl _) _).alloc (by simp) _
 refine ⟨w.heap.size + 1, [{ target := .collected w.heap.size, args := #[] }], W1, { target := .fn (.func gf) lb, args := #[.func (.yield (w.heap.size + 1)) #[] #[]] }, W1, gf,
  #[.func (.yield (w.heap.size + 1)) #[] #[]] ++ lb, W1, ?_, ?_, fun _ _ => trivial, ?_, fun h => (nomatch h), ?_⟩
 ·rw [← hW1, hrec]; exact run_enterLoop_outer _ _ _ _ _
 ·simp only [resolve, hg]
  simp [go_sem]
 ·simp [invoke, go_sem, eg]
 have kept : ∀ {A : World} {b : Nat} {cells : Array Value} {i : Nat} {v : Value} {k : Nat} {o : Obj}, A.heap[k]? = some o → o.isCells = false → (A.setCell ⟨b, i, none⟩ v).heap[k]? = some o := fun hk ho => (KeepsOthers.setCell _ _ _).same _ _ hk ho
 refine (hseq (w.heap.size + 1)
  (fun pre W => I pre W ∧ W.heap[w.heap.size + 1]? = some (.loop (rec .ready none)) ∧ W.heap[w.heap.size]? = some (.deferred (some [])))
  (fun _ _ => False) W1 hB1
  (fun W' hb => ⟨h0 W' (hB1.trans (hb.mono (by omega))), (hb.block _ (by omega)).trans hL1, (hb.block _ (by omega)).trans hK1⟩)
  (fun pre A A' h hb => ⟨hIb pre A A' h.1 hb, (hb.block _ (Array.getElem?_eq_some_iff.1 h.2.1).1).trans h.2.1, (hb.block _ (Array.getElem?_eq_some_iff.1 h.2.2).1).trans h.2.2⟩)
  (fun pre A b cells i v hb0 h hb => ⟨hIs pre A b cells i v (by omega) h.1 hb, (KeepsOthers.setCell _ _ _).same _ _ h.2.1 rfl, (KeepsOthers.setCell _ _ _).same _ _ h.2.2 rfl⟩)
  ?_).mono ?_
 ·rintro pre x W ⟨hi, hl, hk⟩ hlen
  have hy := run_yield (P := P) (args := encs x) hl (by rw [hrec]; exact hps x)
  rw [hrec] at hy
  refine ⟨fn, _, assign, body, hy, roundIn_of_wpIn hfn (hassign _ x pre W _ hi ?_)⟩
  intro a' Wa hAx hka hkpa hia
  have hla := hka.same _ _ hl rfl
  have hkk := hka.same _ _ hk rfl
  refine ⟨_, run_beginRound hla (by rw [hrec]), ?_⟩
  have hlt : w.heap.size + 1 < Wa.heap.size := (Array.getElem?_eq_some_iff.1 hla).1
  have hl2 : (Wa.putObj (w.heap.size + 1) (.loop { rec .ready none with state := .busy })).heap[w.heap.size + 1]? = some (.loop { rec .ready none with state := .busy }) := World.putObj_heap_same hlt
  have hk2 : (Wa.putObj (w.heap.size + 1) (.loop { rec .ready none with state := .busy })).heap[w.heap.size]? = some (.deferred (some [])) := (World.putObj_heap_other (by omega)).trans hkk
  refine wpIn_mono (hbody _ pre x a' _ (hIp pre Wa _ _ _ hia (by omega) hla rfl) (hAp x a' Wa _ _ _ hAx (by omega) hla rfl) hlen) ?_
  rintro e a3 W3 hp
  cases e with
  | normal =>
   obtain ⟨hk3, hkp3, hi3⟩ := hp
   have hl3 := hk3.same _ _ hl2 rfl
   have hd3 := hk3.same _ _ hk2 rfl
   have hr := run_endRound (P := P) none hl3
   rw [hrec] at hr
   refine ⟨_, _, hr, .inl ⟨rfl, ⟨hIp _ W3 _ _ _ hi3 (by omega) hl3 rfl, ?_, (World.putObj_heap_other (by omega)).trans hd3⟩, hKt hkpa (hKt (hKb _ _ _ _ (by omega) hla rfl rfl) (hKt hkp3 (hKb _ _ _ _ (by omega) hl3 rfl rfl)))⟩⟩
   rw [World.putObj_heap_same (Array.getElem?_eq_some_iff.1 hl3).1, hrec]; rfl
  | ret => exact hp.elim
  | exit id => exact hp.elim
  | goto t => exact hp.elim
  | panic ch => exact hp.elim
  | outgrown => exact hp.elim
 ·rintro e W2 ⟨⟨v, rfl⟩, (⟨xs, hS, hi, hl, hk⟩ | ⟨pre, hSp, hf⟩)⟩
  ·exact ⟨none, _, by have := run_endLoop (P := P) hl (by rw [hrec]; simp); rw [hrec] at this; exact this, hdone _ xs _ (Nat.le_refl _) hS (hIp xs W2 _ _ _ hi (by omega) hl rfl) ((World.putObj_heap_other (by omega)).trans hk)⟩
  ·exact hf.elim
end
theorem slices_Grow.mk0 (w : World) (base : Nat) : Kd.string.M w base (fun _ => False) ByteArray.empty (Value.string ⟨#[]⟩).cells.toList := by
 exact rfl
set_option maxHeartbeats 1000000 in
set_option maxRecDepth 100000 in
theorem slices_Grow.nil (n : Nat) (hn : n ≤ 1000000) (w : World) :
  Calls Try.prog 35 #[.slice none 0 0, .int .i64 (n : Int)] w fun e w' => ∃ A c, e = .returned (.slice A 0 c) ∧ Kd.R Kd.string 9 w' w.heap.size (fun _ => True) (.slice A 0 c) [] ∧ Below w.heap.size w w' := by
 go_enter Try.func35, Try.ntmps35
 by_cases h0 : n = 0
 ·subst h0
  go_wp2
  go_ret
  exact ⟨none, 0, rfl, Kd.R_nil _ _ _ _ _, Below.refl _ _⟩
 ·have hpos : (0 : Int) < (n : Int) := by omega
  have hneg : ¬ (n : Int) < 0 := by omega
  have hne : ¬ (n : Int) ≤ 0 := by omega
  go_wp2_with ((with_reducible refine gate_builtin (b := .append) (xs := #[.tmp 20, .tmp 21]) rfl ?_); at_builtin; refine Kd.R_append_zeros Kd.string (w0 := w) w.heap.size rfl (.tmp 20) (.tmp 21) 25 3 9 (.string ⟨#[]⟩) 16 rfl Try.underlying25 Try.underlying3 info9 rfl (by decide) (by decide) (.slice none 0 0) [] ByteArray.empty (n : Int) (fun _ => True) rfl rfl (slices_Grow.mk0 _ _) (fun _ _ => trivial) (Kd.R_nil _ _ _ _ _) (by omega) (Below.refl _ _) (Nat.le_refl _) (by simp; omega) ?_; refine Hid.out ?_)
  refine Lib.hid ?_
  intro v1 w1 HO1 hB1 hg1 hat1
  generalize [] ++ List.replicate (n : Int).toNat ByteArray.empty = xs at HO1
  obtain ⟨A, c, rfl⟩ := Kd.R_slice HO1
  have HR := Kd.R_take (m := 0) HO1 (Nat.zero_le _)
  rw [List.take_zero] at HR
  have HRN := Lib.hid HR
  clear HR HO1 hat1 hg1
  go_wp2
  go_ret
  exact ⟨A, c, rfl, HRN.out, hB1⟩
theorem slices_Concat.take_len (l : List (List ByteArray)) (i : Nat) (hi : i < l.length) : (l.take (i + 1)).flatten = (l.take i).flatten ++ rd_L5 l (i : Int) := by
 rw [List.take_succ_eq_append_getElem hi, List.flatten_append]
 congr 1
 rw [List.flatten_cons, List.flatten_nil, List.append_nil]
 show l[i] = l.getD (i : Int).toNat []
 rw [Int.toNat_natCast, List.getD_eq_getElem?_getD, List.getElem?_eq_getElem hi]; rfl
theorem slices_Concat.take_le (l : List (List ByteArray)) (i : Nat) : (l.take i).flatten.length ≤ l.flatten.length := by
 conv => rhs; rw [← List.take_append_drop i l, List.flatten_append, List.length_append]
 omega
def slices_Concat.f (l : List (List ByteArray)) : Option (List ByteArray) := if l.length ≤ 1000000 ∧ l.flatten.length ≤ 1000000 then some l.flatten else none
set_option maxHeartbeats 4000000 in
set_option maxRecDepth 100000 in
theorem slices_Concat.calls (A0 : Option Addr) (c0 : Nat) (l0 : List (List ByteArray)) (r : List ByteArray) (w : World) (hr0 : Kd.C (Kd.slice 9 Kd.string) w A0 l0.length l0) (hc0 : l0.length ≤ c0) (h : slices_Concat.f l0 = some r) :
  Calls Try.prog 30 #[.slice A0 l0.length c0] w fun e w' => ∃ v0_ : Value, e = .returned v0_ ∧ Kd.R Kd.string 9 w' w.heap.size (fun _ => True) v0_ r ∧ Below w.heap.size w w' := by
 unfold slices_Concat.f at h
 split at h
 case isFalse => cases h
 rename_i hz
 obtain ⟨hz1, hz2⟩ := hz
 cases h
 go_enter Try.func30, Try.ntmps30
 go_wp2
 go_loopw [3, 11] (fun s p wr => ∃ i : Nat, p = .int .i64 (i : Int) ∧ i ≤ l0.length ∧ s = .int .i64 ((l0.take i).flatten.length : Int) ∧ w = wr) (fun s p _ => l0.length - (Lib.intOf p).toNat)
 case atStart => exact ⟨0, rfl, Nat.zero_le _, rfl, rfl⟩
 case round =>
  obtain ⟨i, rfl, hi, rfl, rfl⟩ := hrel
  by_cases hlt : i < l0.length
  ·obtain ⟨ad, B, cB, e, hm, hcB, hCB⟩ := at_L5 hr0 (i : Int) (by omega) (by omega)
   cases e
   simp only [Int.toNat_natCast] at hm
   have ht := slices_Concat.take_len l0 i hlt
   have hle := slices_Concat.take_le l0 (i + 1)
   rw [ht, List.length_append] at hle
   obtain ⟨s, hs⟩ : ∃ s, (l0.take i).flatten.length = s := ⟨_, rfl⟩
   obtain ⟨n, hn⟩ : ∃ n, (rd_L5 l0 (i : Int)).length = n := ⟨_, rfl⟩
   have hsn : (l0.take (i + 1)).flatten.length = s + n := by rw [ht, List.length_append, hs, hn]
   rw [hs, hn] at hle
   rw [hn] at hm
   rw [hs]
   have HSN := Lib.hid hsn
   clear hsn hs hn ht hCB hcB
   have hw1 : wrap64 ((s : Int) + (n : Int)) = (s : Int) + (n : Int) := by unfold wrap64; omega
   have hneg : ¬ ((s : Int) + (n : Int) < 0) := by omega
   go_wp2
   exact ⟨⟨i + 1, by simp, by omega, by rw [HSN.out]; simp, trivial⟩, by simp [Lib.intOf]; omega⟩
  ·obtain rfl : i = l0.length := by omega
   rw [List.take_length]
   obtain ⟨N, hN⟩ : ∃ N, l0.flatten.length = N := ⟨_, rfl⟩
   rw [hN] at hz2 ⊢
   have HN := Lib.hid hN
   clear hN
   go_wp2_with (go_at_call 35; refine (slices_Grow.nil N hz2 _).mono ?_; rintro e w' ⟨A, c, rfl, hR, hB⟩)
   go_loopw [6, 27] (fun v p wr => ∃ i : Nat, p = .int .i64 (i : Int) ∧ i ≤ l0.length ∧ Kd.R Kd.string 9 wr w.heap.size (fun _ => True) v ((l0.take i).flatten) ∧ Below w.heap.size w wr) (fun s p _ => l0.length - (Lib.intOf p).toNat)
   case atStart => exact ⟨0, rfl, Nat.zero_le _, hR, hB⟩
   case round =>
    clear hR hB
    obtain ⟨i, rfl, hi, hR, hB⟩ := hrel
    by_cases hlt : i < l0.length
    ·obtain ⟨ad, B, cB, e, hm, hcB, hCB⟩ := at_L5 (Kd.C_below hr0 hB) (i : Int) (by omega) (by omega)
     cases e
     simp only [Int.toNat_natCast] at hm
     have ht := slices_Concat.take_len l0 i hlt
     have hle := slices_Concat.take_le l0 (i + 1)
     rw [ht, List.length_append] at hle
     obtain ⟨p, hp⟩ : ∃ p, rd_L5 l0 (i : Int) = p := ⟨_, rfl⟩
     obtain ⟨acc, hacc⟩ : ∃ q, (l0.take i).flatten = q := ⟨_, rfl⟩
     rw [hp] at hm hcB hCB ht hle
     rw [hacc] at hR ht hle
     have HT := Lib.hid ht
     clear ht hp hacc
     rw [HN.out] at hle
     go_wp2_with ((with_reducible refine gate_builtin (b := .append) (xs := #[.tmp 31, .tmp 32]) rfl ?_); at_builtin; refine Kd.R_append_rows Kd.string (w0 := w) w.heap.size rfl (.tmp 31) (.tmp 32) 25 9 (.string ⟨#[]⟩) 16 rfl Try.underlying25 info9 rfl (by decide) (by omega) _ acc p _ _ _ (fun _ => True) (fun _ => False) rfl rfl hR hCB (fun _ _ h => h) (fun _ h => h.elim) (fun _ _ => trivial) hB hB.size (by omega) ?_; refine Hid.out ?_)
     refine Lib.hid ?_
     intro v1 w1 HO1 hB1 hg1 hat1
     go_wp2
     exact ⟨⟨i + 1, by simp, by omega, by rw [HT.out]; exact HO1, hB1⟩, by simp [Lib.intOf]; omega⟩
    ·obtain rfl : i = l0.length := by omega
     rw [List.take_length] at hR
     go_wp2
     go_ret
     exact ⟨_, rfl, hR, hB⟩
abbrev hunk_Patch.It := (Int × Int) × S40
def hunk_Patch.sts (n : Int) : List S40 → Int → List hunk_Patch.It
 | [], a => [((a, n), z40)]
 | h :: l, a => ((a, h.f0), h) :: hunk_Patch.sts n l (h.f0 + h.f1)
def hunk_Patch.Kp (base : Nat) (A B : World) : Prop := (∀ k, k < base → B.heap[k]? = A.heap[k]?) ∧ ∀ (k : Nat) (cs : Array Value) (t : TypeId), t ≠ 25 → A.heap[k]? = some (.cells cs t (0, 0)) → B.heap[k]? = A.heap[k]?
def hunk_Patch.Old (base : Nat) (w W : World) : Prop := ∀ k, k < base → W.heap[k]? = w.heap[k]?
section
attribute [local go_sem] Oper.semAt_some
set_option maxHeartbeats 8000000 in
set_option maxRecDepth 100000 in
theorem hunk_Patch.stays (y Bl Bn : Nat) (A : Option Addr) (c : Nat) (l : List S40) (n : Int) (w : World) (hC : Kd.C k40 w A l.length l) (hcap : l.length ≤ c) (hlen : l.length ≤ 1000000) (hbd : ∀ h ∈ l, 0 ≤ h.f0 ∧ h.f0 ≤ 1000000000 ∧ 0 ≤ h.f1 ∧ h.f1 ≤ 1000000000) (W : World) (hB : hunk_Patch.Old w.heap.size w W) (hBl : w.heap.size ≤ Bl)
  (bl : Boxed W Bl 27 (.slice A l.length c)) (bn : Boxed W Bn 3 (.int .i64 n)) (J Jx : List hunk_Patch.It → World → Prop) (hJ0 : J [] W) (hJb : ∀ pre A A', J pre A → Below A.heap.size A A' → J pre A')
  (hY : ∀ pre x W1, J pre W1 → pre ++ [x] <+: hunk_Patch.sts n l 0 → YieldAt Fence.wide 3 Try.prog y #[.agg #[.int .i64 x.1.1, .int .i64 x.1.2], .agg #[.int .i64 x.2.f0, .int .i64 x.2.f1, .int .i64 x.2.f2, .int .i64 x.2.f3]] W1 fun e W' =>
   (e = .returned (.bool true) ∧ J (pre ++ [x]) W' ∧ hunk_Patch.Kp w.heap.size W1 W') ∨ (e = .returned (.bool false) ∧ Jx (pre ++ [x]) W')) :
  CallsIn Fence.wide 4 Try.prog 34 #[.func (.yield y) #[] #[], .pointer (some ⟨Bl, 0, none⟩), .pointer (some ⟨Bn, 0, none⟩)] W fun e W' => (∃ v, e = .returned v) ∧ ((∃ xs, xs = hunk_Patch.sts n l 0 ∧ J xs W') ∨ (∃ pre, pre <+: hunk_Patch.sts n l 0 ∧ Jx pre W')) := by
 obtain ⟨all, hall⟩ : ∃ z, hunk_Patch.sts n l 0 = z := ⟨_, rfl⟩
 rw [hall] at hY ⊢
 refine callsIn_of_wp Try.func34 rfl trivial ?_ rfl
 simp only [Try.ntmps34, List.size_toArray, List.length_cons, List.length_nil, Nat.reduceAdd, Nat.reduceSub, Array.replicate_succ, Array.replicate_zero, List.push_toArray, List.append_toArray, List.nil_append, List.cons_append]
 have c0 := bl.cell
 have HY := Lib.hid hY
 have HJb := Lib.hid hJb
 have HC := Lib.hid hC
 have HBD := Lib.hid hbd
 have HALL := Lib.hid hall
 clear hY hJb hC hbd hall
 gi_wp2
 gi_loopw [4, 9] (fun v p wr => ∃ (pre : List hunk_Patch.It) (i : Nat) (a : Int), v = .int .i64 a ∧ p = .int .i64 (i : Int) ∧ i ≤ l.length ∧ all = pre ++ hunk_Patch.sts n (l.drop i) a ∧ hunk_Patch.Old w.heap.size w wr ∧ Boxed wr Bl 27 (.slice A l.length c) ∧ Boxed wr Bn 3 (.int .i64 n) ∧ J pre wr) (fun v p wr => l.length - (Lib.intOf p).toNat)
 case atStart => exact ⟨[], 0, 0, rfl, rfl, Nat.zero_le _, HALL.out.symm, hB, bl, bn, hJ0⟩
 case round =>
  clear c0 bl bn hJ0 hB
  obtain ⟨pre, i, a, rfl, rfl, hi, hx, hO, ql, qn, hJ⟩ := hrel
  by_cases hlt : i < l.length
  ·have hr := k40_heap.C (w1 := wr) hO HC.out
   obtain ⟨ad, e, m0, m1, m2, m3⟩ := at_T40 hr (i : Int) (by omega) (by omega)
   cases e
   simp only [Int.toNat_natCast] at m0 m1 m2 m3
   obtain ⟨h, hh⟩ : ∃ h, rd_T40 l (i : Int) = h := ⟨_, rfl⟩
   rw [hh] at m0 m1 m2 m3
   have hd : l.drop i = h :: l.drop (i + 1) := by
    rw [List.drop_eq_getElem_cons hlt, ← hh]
    show _ = l.getD i z40 :: _
    rw [List.getD_eq_getElem?_getD, List.getElem?_eq_getElem hlt]; rfl
   obtain ⟨h0, h1, h2, h3⟩ := HBD.out h (by rw [← List.take_append_drop i l, hd]; simp)
   rw [hd, hunk_Patch.sts] at hx
   clear hd hh hr
   have HX := Lib.hid hx
   have hpre : pre ++ [((a, h.f0), h)] <+: all := ⟨hunk_Patch.sts n (l.drop (i + 1)) (h.f0 + h.f1), by rw [hx, List.append_assoc]; rfl⟩
   clear hx
   have hw1 : wrap64 (h.f0 + h.f1) = h.f0 + h.f1 := by unfold wrap64; omega
   clear h0 h1 h2 h3
   have HW1 := Lib.hid hw1
   clear hw1
   have hsz : w.heap.size ≤ wr.heap.size := Nat.le_trans hBl (Nat.le_of_lt ql.lt)
   obtain ⟨Wy, hWy⟩ : ∃ z, wr.alloc (.cells #[.int .i64 h.f0, .int .i64 h.f1, .int .i64 h.f2, .int .i64 h.f3] 40) = z := ⟨_, rfl⟩
   have hbel : Below wr.heap.size wr Wy := by rw [← hWy]; exact below_alloc (Below.refl _ _) _
   have hnew : Wy.heap[wr.heap.size]? = some (.cells #[.int .i64 h.f0, .int .i64 h.f1, .int .i64 h.f2, .int .i64 h.f3] 40) := by rw [← hWy]; exact World.alloc_heap_new wr _
   have hOy : hunk_Patch.Old w.heap.size w Wy := fun k hk => (hbel.block k (by omega)).trans (hO k hk)
   have qly : Boxed Wy Bl 27 (.slice (some ad) l.length c) := (hbel.block Bl ql.lt).trans ql
   have qny : Boxed Wy Bn 3 (.int .i64 n) := (hbel.block Bn qn.lt).trans qn
   obtain ⟨fn, tmps, assign, body, hy, hR⟩ := HY.out pre ((a, h.f0), h) Wy (HJb.out _ _ _ hJ hbel) hpre
   dsimp only at hy
   subst hWy
   have HB1 := Lib.hid hnew
   have HO1 := Lib.hid hOy
   have HL1 := Lib.hid qly
   have HN1 := Lib.hid qny
   have HR := Lib.hid hR
   have HP := Lib.hid hpre
   clear hnew hOy qly qny hbel hR hpre hsz
   gi_wp2
   refine HR.out.mono ?_
   rintro e W2 (⟨rfl, j2, kp⟩ | ⟨rfl, hjx⟩)
   ·have ql2 : Boxed W2 Bl 27 (.slice (some ad) l.length c) := (kp.2 _ _ _ (by decide) HL1.out).trans HL1.out
    have qn2 : Boxed W2 Bn 3 (.int .i64 n) := (kp.2 _ _ _ (by decide) HN1.out).trans HN1.out
    have hn2 : W2.heap[wr.heap.size]? = some (.cells #[.int .i64 h.f0, .int .i64 h.f1, .int .i64 h.f2, .int .i64 h.f3] 40) := (kp.2 _ _ _ (by decide) HB1.out).trans HB1.out
    have hO2 : hunk_Patch.Old w.heap.size w W2 := fun k hk => (kp.1 k hk).trans (HO1.out k hk)
    have d0 : W2.cell? ⟨wr.heap.size, 0, none⟩ = some (.int .i64 h.f0) := by unfold World.cell?; rw [hn2]; rfl
    have d1 : W2.cell? ⟨wr.heap.size, 1, none⟩ = some (.int .i64 h.f1) := by unfold World.cell?; rw [hn2]; rfl
    have hw1 := HW1.out
    clear m0 m1 m2 m3 hn2 hy kp
    have HO2 := Lib.hid hO2
    clear hO2
    gi_wp2
    go_roundw
    case rel =>
     exact ⟨pre ++ [((a, h.f0), h)], i + 1, h.f0 + h.f1, by rw [HW1.out], by simp, by omega, by rw [HX.out, List.append_assoc]; rfl, HO2.out, ql2, qn2, j2⟩
    case measure => simp [Lib.intOf]; omega
   ·gi_wp2
    refine bodyPost_ret (results_none rfl _ _ _) rfl ?_
    exact ⟨⟨_, rfl⟩, .inr ⟨_, HP.out, hjx⟩⟩
  ·obtain rfl : i = l.length := by omega
   rw [List.drop_length, hunk_Patch.sts] at hx
   have hpre : pre ++ [((a, n), z40)] <+: all := ⟨[], by rw [hx, List.append_nil]⟩
   obtain ⟨fn, tmps, assign, body, hy, hR⟩ := HY.out pre ((a, n), z40) wr hJ hpre
   unfold z40 at hy
   dsimp only at hy
   have HR := Lib.hid hR
   have HP := Lib.hid hpre
   have HX := Lib.hid hx
   have cn := qn.cell
   clear hR hpre hx
   gi_wp2
   refine HR.out.mono ?_
   rintro e W2 (⟨rfl, j2, kp⟩ | ⟨rfl, hjx⟩)
   ·gi_wp2
    go_end0
    exact ⟨⟨_, rfl⟩, .inl ⟨_, HX.out.symm, j2⟩⟩
   ·gi_wp2
    go_end0
    exact ⟨⟨_, rfl⟩, .inr ⟨_, HP.out, hjx⟩⟩
end
theorem hunk_Patch.Bx_below {W W' : World} {B : Nat} {t : TypeId} {v : Value} (hb : Below W.heap.size W W') (h : Boxed W B t v) : Boxed W' B t v := (hb.block B h.lt).trans h
theorem hunk_Patch.belowTr {W W1 w' : World} (h : Below W1.heap.size W1 w') (k : Below W.heap.size W W1) : Below W.heap.size W w' := k.trans (h.mono k.size)
theorem hunk_Patch.C3 {W : World} {B : Nat} {A1 A2 A3 : Option Addr} {c1 c2 c3 : Nat} {x1 x2 x3 : List ByteArray} (hb : W.heap[B]? = some (.cells #[.slice A1 x1.length c1, .slice A2 x2.length c2, .slice A3 x3.length c3] 25 (0, 0)))
  (h1 : x1.length ≤ c1) (k1 : Kd.C Kd.string W A1 x1.length x1) (h2 : x2.length ≤ c2) (k2 : Kd.C Kd.string W A2 x2.length x2) (h3 : x3.length ≤ c3) (k3 : Kd.C Kd.string W A3 x3.length x3) : Kd.C (Kd.slice 9 Kd.string) W (some ⟨B, 0, none⟩) [x1, x2, x3].length [x1, x2, x3] := by
 refine ⟨rfl, by simp, fun _ => ⟨_, rfl, fun j p hj => ?_⟩⟩
 have key : ∀ (j : Nat) (u : Value), (#[Value.slice A1 x1.length c1, .slice A2 x2.length c2, .slice A3 x3.length c3])[j]? = some u → W.cell? ((⟨B, 0, none⟩ : Addr).add (j * 1 + 0)) = some u := by
  intro j u hu
  have e : (⟨B, 0, none⟩ : Addr).add (j * 1 + 0) = ⟨B, j, none⟩ := by
   unfold Addr.add
   simp only [Nat.mul_one, Nat.add_zero, Nat.zero_add]
   split <;> simp_all
  rw [e]
  unfold World.cell?
  rw [hb]
  simpa using hu
 match j, hj with
 | 0, hj =>
  cases hj
  refine ⟨[_], rfl, ⟨A1, c1, rfl, h1, k1⟩, fun i u hu => ?_⟩
  cases i with
  | zero => cases hu; exact key 0 _ rfl
  | succ i => simp at hu
 | 1, hj =>
  cases hj
  refine ⟨[_], rfl, ⟨A2, c2, rfl, h2, k2⟩, fun i u hu => ?_⟩
  cases i with
  | zero => cases hu; exact key 1 _ rfl
  | succ i => simp at hu
 | 2, hj =>
  cases hj
  refine ⟨[_], rfl, ⟨A3, c3, rfl, h3, k3⟩, fun i u hu => ?_⟩
  cases i with
  | zero => cases hu; exact key 2 _ rfl
  | succ i => simp at hu
 | j + 3, hj => simp at hj
theorem hunk_Patch.Rs_step {W W' : World} {base : Nat} {v : Value} {xs : List ByteArray} (h : Kd.R Kd.string 9 W base (fun _ => True) v xs) (hm : ∀ (k : Nat) (cs : Array Value), W.heap[k]? = some (.cells cs 9 (0, 0)) → W'.heap[k]? = W.heap[k]?) : Kd.R Kd.string 9 W' base (fun _ => True) v xs :=
 Kd.R_mono (Kd.R_move (Kd.R_bound h) (fun k hk => by
  obtain ⟨_, _, _, q, hq, cs, hc⟩ := hk
  have : q = 9 := by
   rcases List.mem_cons.1 hq with rfl | h'
   ·rfl
   ·exact absurd h' (by simp [Kd.string, Kd.scalar])
  subst this; exact hm k cs hc)) (fun _ _ => trivial)
theorem hunk_Patch.Kp_t {base : Nat} {A B C : World} (h : hunk_Patch.Kp base A B) (h' : hunk_Patch.Kp base B C) : hunk_Patch.Kp base A C :=
 ⟨fun k hk => (h'.1 k hk).trans (h.1 k hk), fun k cs t ht hc => (h'.2 k cs t ht ((h.2 k cs t ht hc).trans hc)).trans (h.2 k cs t ht hc)⟩
theorem hunk_Patch.Kp_b {base : Nat} (W : World) (l : Nat) (o o' : Obj) (hb : base ≤ l) (hl : W.heap[l]? = some o) (ho : o.isCells = false) : hunk_Patch.Kp base W (W.putObj l o') :=
 ⟨fun k hk => World.putObj_heap_other (by omega), fun k cs t _ hc => World.putObj_heap_other (by rintro rfl; rw [hl] at hc; cases hc; cases ho)⟩
theorem hunk_Patch.Kp_below {base : Nat} {W W' : World} (hb : base ≤ W.heap.size) (h : Below W.heap.size W W') : hunk_Patch.Kp base W W' :=
 ⟨fun k hk => h.block k (by omega), fun k cs t _ hc => h.block k (Array.getElem?_eq_some_iff.1 hc).1⟩
theorem hunk_Patch.no_defer {ops : Array Oper} (h : (ops.toList.all fun o => match o.op with | .defer _ => false | _ => true) = true) : ∀ (i : Nat) (o : Oper), ops[i]? = some o → ∀ c, o.op ≠ .defer c := fun i o ho c e => by
 have := List.all_eq_true.1 h o (by rw [Array.mem_toList_iff]; exact Array.mem_of_getElem? ho)
 rw [e] at this
 cases this
/-! what Patch computes -/
def hunk_Patch.one (a b acc : List ByteArray) (x : hunk_Patch.It) : Option (List ByteArray) :=
 if 0 ≤ x.1.1 ∧ x.1.1 ≤ x.1.2 ∧ x.1.2 ≤ a.length ∧ 0 ≤ x.2.f2 ∧ 0 ≤ x.2.f3 ∧ x.2.f2 + x.2.f3 ≤ b.length ∧ acc.length + ((a.take x.1.2.toNat).drop x.1.1.toNat).length + ((b.take (x.2.f2 + x.2.f3).toNat).drop x.2.f2.toNat).length ≤ 1000000 then
  some (acc ++ ((a.take x.1.2.toNat).drop x.1.1.toNat ++ (b.take (x.2.f2 + x.2.f3).toNat).drop x.2.f2.toNat))
 else none
def hunk_Patch.go (a b : List ByteArray) : List hunk_Patch.It → List ByteArray → Option (List ByteArray)
 | [], acc => some acc
 | x :: l, acc => (hunk_Patch.one a b acc x).bind fun r => hunk_Patch.go a b l r
def hunk_Patch.fit (l : List S40) : Bool := l.all fun h => decide (0 ≤ h.f0 ∧ h.f0 ≤ 1000000000 ∧ 0 ≤ h.f1 ∧ h.f1 ≤ 1000000000)
def hunk_Patch.f (k : Nat) (l0 : List ByteArray) (l1 : List S40) (l2 : List ByteArray) : Option (List ByteArray × Int) :=
 if l0.length ≤ 1000000 ∧ l1.length ≤ 1000000 ∧ l2.length ≤ 1000000 then
  (hunk_Check.f k l1 l0.length l2.length).bind fun e =>
   if e = 0 then (if hunk_Patch.fit l1 = true then (hunk_Patch.go l0 l2 (hunk_Patch.sts l0.length l1 0) []).bind fun r => some (r, 0) else none)
   else some ([], e)
 else none
theorem hunk_Patch.mono : ∀ a0 a1 a2 k, LeO (hunk_Patch.f k a0 a1 a2) (hunk_Patch.f (k + 1) a0 a1 a2) := by
 intro l0 l1 l2 k r h
 unfold hunk_Patch.f at h ⊢
 split at h
 case isFalse => cases h
 rename_i h0
 rw [if_pos h0]
 obtain ⟨e, h1, h⟩ := Option.bind_eq_some_iff.1 h
 rw [hunk_Check.mono _ _ _ k e h1, Option.bind_some]
 exact h
theorem hunk_Patch.go_snoc {a b : List ByteArray} {x : hunk_Patch.It} {acc' : List ByteArray} : ∀ {pre : List hunk_Patch.It} {acc0 acc : List ByteArray}, hunk_Patch.go a b pre acc0 = some acc → hunk_Patch.one a b acc x = some acc' → hunk_Patch.go a b (pre ++ [x]) acc0 = some acc'
 | [], acc0, acc, h, hx => by
  cases h
  rw [List.nil_append, hunk_Patch.go, hx]; rfl
 | y :: pre, acc0, acc, h, hx => by
  rw [hunk_Patch.go] at h
  obtain ⟨u, hu, h⟩ := Option.bind_eq_some_iff.1 h
  rw [List.cons_append, hunk_Patch.go, hu, Option.bind_some]
  exact hunk_Patch.go_snoc h hx
theorem hunk_Patch.go_at {a b : List ByteArray} {x : hunk_Patch.It} {post : List hunk_Patch.It} {r : List ByteArray} : ∀ {pre : List hunk_Patch.It} {acc0 acc : List ByteArray}, hunk_Patch.go a b pre acc0 = some acc → hunk_Patch.go a b (pre ++ x :: post) acc0 = some r → ∃ acc', hunk_Patch.one a b acc x = some acc'
 | [], acc0, acc, h, hr => by
  cases h
  rw [List.nil_append, hunk_Patch.go] at hr
  obtain ⟨u, hu, _⟩ := Option.bind_eq_some_iff.1 hr
  exact ⟨u, hu⟩
 | y :: pre, acc0, acc, h, hr => by
  rw [hunk_Patch.go] at h
  obtain ⟨u, hu, h⟩ := Option.bind_eq_some_iff.1 h
  rw [List.cons_append, hunk_Patch.go, hu, Option.bind_some] at hr
  exact hunk_Patch.go_at h hr
set_option maxHeartbeats 1000000 in
theorem hunk_Patch.make (A : Option Addr) (m c : Nat) (n : Int) (w : World) :
  CallsIn Fence.wide 4 Try.prog 29 #[.slice A m c, .int .i64 n] w fun e w' => e = .returned (.func (.func 34) #[] #[.pointer (some ⟨w.heap.size, 0, none⟩), .pointer (some ⟨w.heap.size + 1, 0, none⟩)]) ∧ w' = (w.alloc (.cells #[.slice A m c] 27)).alloc (.cells #[.int .i64 n] 3) := by
 refine callsIn_of_wp Try.func29 rfl trivial ?_ rfl
 simp only [Try.ntmps29, List.size_toArray, List.length_cons, List.length_nil, Nat.reduceAdd, Nat.reduceSub, Array.replicate_succ, Array.replicate_zero, List.push_toArray, List.append_toArray, List.nil_append, List.cons_append]
 gi_wp2
 go_ret
 exact ⟨rfl, rfl⟩
section
attribute [local go_sem] Oper.semAt_some
set_option maxHeartbeats 8000000 in
set_option maxRecDepth 100000 in
theorem hunk_Patch.run (k : Nat) (A0 A1 A2 : Option Addr) (c0 c1 c2 : Nat) (l0 : List ByteArray) (l1 : List S40) (l2 : List ByteArray) (r1 : List ByteArray) (r2 : Int) (w : World) (hr0 : Kd.C Kd.string w A0 l0.length l0) (hc0 : l0.length ≤ c0) (hr1 : Kd.C k40 w A1 l1.length l1) (hc1 : l1.length ≤ c1) (hr2 : Kd.C Kd.string w A2 l2.length l2) (hc2 : l2.length ≤ c2)
  (h : hunk_Patch.f k l0 l1 l2 = some (r1, r2)) : CallsIn Fence.wide 5 Try.prog 14 #[.slice A0 l0.length c0, .slice A1 l1.length c1, .slice A2 l2.length c2] w fun e W' => ∃ v, e = .returned (.tuple #[v, .int .i64 r2]) ∧ Kd.R Kd.string 9 W' w.heap.size (fun _ => True) v r1 ∧ Below w.heap.size w W' := by
 unfold hunk_Patch.f at h
 split at h
 case isFalse => cases h
 rename_i hz
 obtain ⟨z0, z1, z2⟩ := hz
 obtain ⟨e0, hck, h⟩ := Option.bind_eq_some_iff.1 h
 have hm : Try.prog.follows .mixedOrders = true := by kernel_rfl
 refine callsIn_of_wp_marks Try.func14 rfl trivial ?_ rfl
 simp only [Try.ntmps14, List.size_toArray, List.length_cons, List.length_nil, Nat.reduceAdd, Nat.reduceSub, Array.replicate_succ, Array.replicate_zero, List.push_toArray, List.append_toArray, List.nil_append, List.cons_append]
 have hB2 : Below w.heap.size w ((w.alloc (.cells #[.slice A0 l0.length c0] 25)).alloc (.cells #[.slice A2 l2.length c2] 25)) := below_alloc (below_alloc (Below.refl _ w) _) _
 have pA := (Boxed.new w 25 (.slice A0 l0.length c0)).alloc (.cells #[.slice A2 l2.length c2] 25)
 have pB := Boxed.new (w.alloc (.cells #[.slice A0 l0.length c0] 25)) 25 (.slice A2 l2.length c2)
 rw [World.size_alloc] at pB
 by_cases he : e0 = 0
 ·subst he
  rw [if_pos rfl] at h
  split at h
  case isFalse => cases h
  rename_i hfit
  obtain ⟨r, hgo, h⟩ := Option.bind_eq_some_iff.1 h
  cases h
  gi_wp2_with (first | (refine ⟨trivial, ?_⟩; gi_at_call 17; refine (callsIn_wide.2 (hunk_Check.calls k _ _ _ _ _ _ _ (Kd.C_below hr1 hB2) hc1 hck)).mono ?_; rintro e w' ⟨rfl, hB⟩; have qA := hunk_Patch.Bx_below hB pA; have qB := hunk_Patch.Bx_below hB pB; have qA1 := (qA.alloc (.cells #[.slice none 0 0] 25)).cell) | (refine ⟨trivial, ?_⟩; gi_at_call 29; refine (hunk_Patch.make _ _ _ _ _).mono ?_; rintro e w' ⟨rfl, rfl⟩))
  have pO := (((Boxed.new w' 25 (.slice none 0 0)).alloc (.cells #[.slice A1 l1.length c1] 27)).alloc (.cells #[.int .i64 (l0.length : Int)] 3))
  have pL := ((Boxed.new (w'.alloc (.cells #[.slice none 0 0] 25)) 27 (.slice A1 l1.length c1)).alloc (.cells #[.int .i64 (l0.length : Int)] 3))
  have pN := Boxed.new ((w'.alloc (.cells #[.slice none 0 0] 25)).alloc (.cells #[.slice A1 l1.length c1] 27)) 3 (.int .i64 (l0.length : Int))
  simp only [World.size_alloc] at pL pN
  have hbl : Below w'.heap.size w' (((w'.alloc (.cells #[.slice none 0 0] 25)).alloc (.cells #[.slice A1 l1.length c1] 27)).alloc (.cells #[.int .i64 (l0.length : Int)] 3)) := below_alloc (below_alloc (below_alloc (Below.refl _ _) _) _) _
  have pA3 := hunk_Patch.Bx_below hbl qA
  have pB3 := hunk_Patch.Bx_below hbl qB
  have hB3 := hunk_Patch.belowTr hbl (hunk_Patch.belowTr hB hB2)
  have g0 : w.heap.size + 2 ≤ w'.heap.size := by have := hB.size; simp only [World.size_alloc] at this; omega
  have hz3 : (((w'.alloc (.cells #[.slice none 0 0] 25)).alloc (.cells #[.slice A1 l1.length c1] 27)).alloc (.cells #[.int .i64 (l0.length : Int)] 3)).heap.size = w'.heap.size + 1 + 1 + 1 := by simp only [World.size_alloc]
  generalize ((w'.alloc (.cells #[.slice none 0 0] 25)).alloc (.cells #[.slice A1 l1.length c1] 27)).alloc (.cells #[.int .i64 (l0.length : Int)] 3) = W3 at pO pL pN pA3 pB3 hB3 hz3 ⊢
  obtain ⟨Bo, hBo⟩ : ∃ b, w'.heap.size = b := ⟨_, rfl⟩
  rw [hBo] at pO pL pN g0 hz3 ⊢
  obtain ⟨Bl, hBl⟩ : ∃ b, Bo + 1 = b := ⟨_, rfl⟩
  rw [hBl] at pL pN hz3 ⊢
  obtain ⟨Bn, hBn⟩ : ∃ b, Bl + 1 = b := ⟨_, rfl⟩
  rw [hBn] at pN hz3 ⊢
  clear hBo pA pB qA qB qA1 hbl
  have hOld0 : hunk_Patch.Old w.heap.size w W3 := fun k hk => hB3.block k hk
  refine range_own (T := 99) (gf := 34) (lb := #[Value.pointer (some ⟨Bl, 0, none⟩), Value.pointer (some ⟨Bn, 0, none⟩)]) rfl (enters_of Try.func34 (by kernel_rfl) rfl) (encs := fun x : hunk_Patch.It => #[.agg #[.int .i64 x.1.1, .int .i64 x.1.2], .agg #[.int .i64 x.2.f0, .int .i64 x.2.f1, .int .i64 x.2.f2, .int .i64 x.2.f3]]) (Kp := hunk_Patch.Kp w.heap.size) (S := fun xs => xs = hunk_Patch.sts (l0.length : Int) l1 0) (Sp := fun pre => pre <+: hunk_Patch.sts (l0.length : Int) l1 0) ?seq hunk_Patch.Kp_t (fun W l o o' hl hlo ho _ => hunk_Patch.Kp_b W l o o' (by omega) hlo ho) (fun _ => rfl)
   (fun pre W => Below w.heap.size w W ∧ ∃ v acc, hunk_Patch.go l0 l2 pre [] = some acc ∧ acc.length ≤ 1000000 ∧ Boxed W Bo 25 v ∧ Kd.R Kd.string 9 W w.heap.size (fun _ => True) v acc ∧ Boxed W w.heap.size 25 (.slice A0 l0.length c0) ∧ Boxed W (w.heap.size + 1) 25 (.slice A2 l2.length c2))
   ?start ?hIb ?hIs ?hIp
   (fun x a' W => ∃ B10 B11, a' = { tmps := #[.slice A0 l0.length c0, .slice A1 l1.length c1, .slice A2 l2.length c2, Value.pointer (some ⟨w.heap.size, 0, none⟩), undef, Value.pointer (some ⟨(w.heap.size + 1), 0, none⟩), .slice none 0 0, .int .i64 0, .int .i64 0, Value.pointer (some ⟨Bo, 0, none⟩), Value.pointer (some ⟨B10, 0, none⟩), Value.pointer (some ⟨B11, 0, none⟩), .slice A1 l1.length c1, .slice A0 l0.length c0, .int .i64 (l0.length : Int), .slice A2 l2.length c2, .int .i64 (l2.length : Int), .int .i64 0, .int .i64 0, .bool false, undef, .slice A1 l1.length c1, .slice A0 l0.length c0, .int .i64 (l0.length : Int), .func (.func 34) #[] #[Value.pointer (some ⟨Bl, 0, none⟩), Value.pointer (some ⟨Bn, 0, none⟩)], .agg #[.int .i64 x.1.1, .int .i64 x.1.2], .agg #[.int .i64 x.2.f0, .int .i64 x.2.f1, .int .i64 x.2.f2, .int .i64 x.2.f3], undef, undef, undef, undef, undef, undef, undef, undef, undef, undef, undef, undef, undef, undef, undef, undef, undef, undef, undef], defers := [] } ∧ W.heap[B10]? = some (.cells #[.int .i64 x.1.1, .int .i64 x.1.2] 53 (0, 0)) ∧ W.heap[B11]? = some (.cells #[.int .i64 x.2.f0, .int .i64 x.2.f1, .int .i64 x.2.f2, .int .i64 x.2.f3] 40 (0, 0))) ?hAp ?assign ?body ?done
  case seq =>
   intro y J Jx W hW hJ0 hJb _ hY
   exact hunk_Patch.stays y Bl Bn A1 c1 l1 (l0.length : Int) w hr1 hc1 z1 (fun h hh => Zo (List.all_eq_true.1 hfit h hh)) W (fun k hk => (hW.block k (by omega)).trans (hOld0 k hk)) (by omega) (hunk_Patch.Bx_below hW pL) (hunk_Patch.Bx_below hW pN) J Jx (hJ0 W (Below.refl _ _)) hJb hY
  case start =>
   intro W' hb
   exact ⟨hunk_Patch.belowTr hb hB3, _, [], rfl, Nat.zero_le _, hunk_Patch.Bx_below hb pO, Kd.R_nil _ _ _ _ _, hunk_Patch.Bx_below hb pA3, hunk_Patch.Bx_below hb pB3⟩
  case hIb =>
   rintro pre A A' ⟨h1, v, acc, h2, h2', h3, h4, h5, h6⟩ hb
   exact ⟨hunk_Patch.belowTr hb h1, v, acc, h2, h2', hunk_Patch.Bx_below hb h3, Kd.R_below h4 hb, hunk_Patch.Bx_below hb h5, hunk_Patch.Bx_below hb h6⟩
  case hIs =>
   rintro pre A b cells i u hb0 ⟨h1, v, acc, h2, h2', h3, h4, h5, h6⟩ hb
   have far : ∀ (k : Nat) (cs : Array Value) (t : TypeId), t ≠ 99 → A.heap[k]? = some (.cells cs t (0, 0)) → (A.setCell ⟨b, i, none⟩ u).heap[k]? = A.heap[k]? := fun k cs t ht hc => Below.heap_setCell _ _ _ _ (by intro e; have e : k = b := e; rw [e, hb] at hc; cases hc; exact ht rfl)
   exact ⟨h1.setCell (p := ⟨b, i, none⟩) (by show w.heap.size ≤ b; omega) u, v, acc, h2, h2', (far _ _ _ (by decide) h3).trans h3, hunk_Patch.Rs_step h4 (fun k cs hc => far k cs 9 (by decide) hc), (far _ _ _ (by decide) h5).trans h5, (far _ _ _ (by decide) h6).trans h6⟩
  case hIp =>
   rintro pre A l o o' ⟨h1, v, acc, h2, h2', h3, h4, h5, h6⟩ hl hlo ho
   have key : ∀ (k : Nat) (cs : Array Value) (t : TypeId), A.heap[k]? = some (.cells cs t (0, 0)) → (A.putObj l o').heap[k]? = A.heap[k]? := fun k cs t hc => World.putObj_heap_other (by rintro rfl; rw [hlo] at hc; cases hc; cases ho)
   exact ⟨h1.trans ⟨rfl, rfl, rfl, by simp, fun k hk => World.putObj_heap_other (by omega)⟩, v, acc, h2, h2', (key _ _ _ h3).trans h3, hunk_Patch.Rs_step h4 (fun k cs hc => key _ _ _ hc), (key _ _ _ h5).trans h5, (key _ _ _ h6).trans h6⟩
  case hAp =>
   rintro x a' A l o o' ⟨B10, B11, h1, h2, h3⟩ hl hlo ho
   have key : ∀ (k : Nat) (cs : Array Value) (t : TypeId), A.heap[k]? = some (.cells cs t (0, 0)) → (A.putObj l o').heap[k]? = A.heap[k]? := fun k cs t hc => World.putObj_heap_other (by rintro rfl; rw [hlo] at hc; cases hc; cases ho)
   exact ⟨B10, B11, h1, (key _ _ _ h2).trans h2, (key _ _ _ h3).trans h3⟩
  case assign =>
   intro l x pre W K hI hK
   obtain ⟨h1, v, acc, h2, h2', h3, h4, h5, h6⟩ := hI
   have go : ∀ (c1 c2 : Obj), Below W.heap.size W ((W.alloc c1).alloc c2) := fun c1 c2 => below_alloc (below_alloc (Below.refl _ _) _) _
   have n1 : ∀ (c1 c2 : Obj), ((W.alloc c1).alloc c2).heap[W.heap.size]? = some c1 := fun c1 c2 => (Below.heap_alloc _ _ _ (by simp)).trans (World.alloc_heap_new W c1)
   have n2 : ∀ (c1 c2 : Obj), ((W.alloc c1).alloc c2).heap[W.heap.size + 1]? = some c2 := fun c1 c2 => by
    have := World.alloc_heap_new (W.alloc c1) c2
    rw [World.size_alloc] at this; exact this
   have G := Lib.hid go
   have N1 := Lib.hid n1
   have N2 := Lib.hid n2
   clear go n1 n2
   gi_wp2
   have hb := G.out
   exact hK _ _ ⟨W.heap.size, W.heap.size + 1, rfl, N1.out _ _, N2.out _ _⟩ ((KeepsOthers.alloc _ _).trans (KeepsOthers.alloc _ _)) (hunk_Patch.Kp_below (h1.size) (hb _ _))
    ⟨hunk_Patch.belowTr (hb _ _) h1, v, acc, h2, h2', hunk_Patch.Bx_below (hb _ _) h3, Kd.R_below h4 (hb _ _), hunk_Patch.Bx_below (hb _ _) h5, hunk_Patch.Bx_below (hb _ _) h6⟩
  case done =>
   rintro D ys W hD rfl ⟨h1, v, acc, h2, h2', h3, h4, h5, h6⟩ hd
   rw [hgo] at h2
   cases h2
   have hc := h3.cell
   gi_wp2
   refine ⟨by simp, .inl ⟨_, _, rfl, run_takeDeferred hd, ?_⟩⟩
   have key : ∀ (k : Nat) (cs : Array Value) (t : TypeId), W.heap[k]? = some (.cells cs t (0, 0)) → (W.putObj D (.deferred none)).heap[k]? = W.heap[k]? := fun k cs t hc => World.putObj_heap_other (by rintro rfl; rw [hd] at hc; cases hc)
   exact ⟨_, results_tmp2 rfl _ _ _, v, rfl, hunk_Patch.Rs_step h4 (fun k cs hc => key _ _ _ hc), h1.trans ⟨rfl, rfl, rfl, by simp, fun k hk => World.putObj_heap_other (by omega)⟩⟩
  case body =>
   rintro l pre x a' W ⟨h1, v, acc, h2, h2', h3, h4, h5, h6⟩ ⟨B10, B11, rfl, t10, t11⟩ hpre
   obtain ⟨acc', ha⟩ : ∃ acc', hunk_Patch.one l0 l2 acc x = some acc' := by
    obtain ⟨post, hp⟩ := hpre
    rw [List.append_assoc] at hp
    rw [← hp] at hgo
    exact hunk_Patch.go_at h2 hgo
   have hsn := hunk_Patch.go_snoc h2 ha
   obtain ⟨⟨fr, to_⟩, hd⟩ := x
   dsimp only at t10 t11
   unfold hunk_Patch.one at ha
   split at ha
   case isFalse => cases ha
   rename_i hg
   cases ha
   dsimp only at hg hsn ⊢
   obtain ⟨g0', g1, g2, g3, g4, g5, g6⟩ := hg
   obtain ⟨Av, cv, rfl⟩ := Kd.R_slice h4
   obtain ⟨i0, hi0, _, hsz0, _⟩ := info_parts info9
   obtain ⟨Ax_, hcutA, rA, hA3⟩ := print_mid_of (P := Try.prog) Value.string ByteArray.empty 25 9 .i64 .i64 Try.underlying25 hi0 hsz0 A0 c0 l0 fr to_ g0' g1 g2 hc0
   obtain ⟨Ay_, hcutB, rB, hB3'⟩ := print_mid_of (P := Try.prog) Value.string ByteArray.empty 25 9 .i64 .i64 Try.underlying25 hi0 hsz0 A2 c2 l2 hd.f2 (hd.f2 + hd.f3) g3 (by omega) g5 hc2
   have kA := Kd.C_of_reads (h1 := fun _ => rfl) (rA _ (Kd.reads_of_C hr0))
   have kB := Kd.C_of_reads (h1 := fun _ => rfl) (rB _ (Kd.reads_of_C hr2))
   obtain ⟨xa, hxa⟩ : ∃ y, (l0.take to_.toNat).drop fr.toNat = y := ⟨_, rfl⟩
   obtain ⟨xb, hxb⟩ : ∃ y, (l2.take (hd.f2 + hd.f3).toNat).drop hd.f2.toNat = y := ⟨_, rfl⟩
   rw [hxa] at hcutA kA hA3 hsn g6
   rw [hxb] at hcutB kB hB3' hsn g6
   have hww : wrap64 (hd.f2 + hd.f3) = hd.f2 + hd.f3 := by unfold wrap64; omega
   have c10 : W.cell? ⟨B10, 0, none⟩ = some (.int .i64 fr) ∧ W.cell? ⟨B10, 1, none⟩ = some (.int .i64 to_) := by
    constructor <;> · unfold World.cell?; rw [t10]; rfl
   have c11 : W.cell? ⟨B11, 2, none⟩ = some (.int .i64 hd.f2) ∧ W.cell? ⟨B11, 3, none⟩ = some (.int .i64 hd.f3) := by
    constructor <;> · unfold World.cell?; rw [t11]; rfl
   have G6 := Lib.hid g6
   have HR1 := Lib.hid hr1
   clear rA rB hi0 hsz0 g0' g1 g2 g3 g4 g5 g6 hr0 hr1 hr2 z0 z1 z2 hxa hxb hgo hfit h2 hpre hck
   refine wpIn_block ?_
   refine wpIn_region_any hm ?_
   refine round_any ?_ ?_ _ _ _ _ ?_
   ·rintro ⟨a, w', h⟩
    exact h
   ·exact hunk_Patch.no_defer (by kernel_rfl)
   change wpAny _ _ _ _ _ _ _ (World.drew _)
   refine wpAny_of_last (S := fun w' => w'.cell? ⟨Bo, 0, none⟩ = some (.slice Av acc.length cv) ∧ w'.cell? ⟨w.heap.size, 0, none⟩ = some (.slice A0 l0.length c0) ∧ w'.cell? ⟨w.heap.size + 1, 0, none⟩ = some (.slice A2 l2.length c2) ∧ w'.cell? ⟨B10, 0, none⟩ = some (.int .i64 fr) ∧ w'.cell? ⟨B10, 1, none⟩ = some (.int .i64 to_) ∧ w'.cell? ⟨B11, 2, none⟩ = some (.int .i64 hd.f2) ∧ w'.cell? ⟨B11, 3, none⟩ = some (.int .i64 hd.f3)) (ds := [18]) _ _ _ _ ?_
   have hHeld : (fun w' => w'.cell? ⟨Bo, 0, none⟩ = some (.slice Av acc.length cv) ∧ w'.cell? ⟨w.heap.size, 0, none⟩ = some (.slice A0 l0.length c0) ∧ w'.cell? ⟨w.heap.size + 1, 0, none⟩ = some (.slice A2 l2.length c2) ∧ w'.cell? ⟨B10, 0, none⟩ = some (.int .i64 fr) ∧ w'.cell? ⟨B10, 1, none⟩ = some (.int .i64 to_) ∧ w'.cell? ⟨B11, 2, none⟩ = some (.int .i64 hd.f2) ∧ w'.cell? ⟨B11, 3, none⟩ = some (.int .i64 hd.f3)) W.drew := ⟨h3.cell, h5.cell, h6.cell, c10.1, c10.2, c11.1, c11.2⟩
   have dB : Below w.heap.size w W.drew := h1.drew
   change wpAnyLast _ _ _ _ _ _ 19 #[false, false, false, false, false, false, false, false, false, false, false, false, false, false, false, false, false, false, false] _ _
   obtain ⟨Wd, hWd⟩ : ∃ x, W.drew = x := ⟨_, rfl⟩
   rw [hWd] at hHeld dB ⊢
   have HW := Lib.hid hWd
   clear hWd
   refine take_ (i := 0) (N := some 27) (v := ?_) (a' := ?_) #[true, false, false, false, false, false, false, false, false, false, false, false, false, false, false, false, false, false, false] rfl rfl (by kernel_rfl) (fun _ _ _ h => h) (Or.inl ⟨by rfl, ?_⟩) hHeld ?_ ?_
   rotate_left
   ·rintro w' ⟨s0, s1, s2, s3, s4, s5, s6⟩
    go_simp
    with_reducible rfl
   rotate_left
   ·simp only [Act.put, List.setIfInBounds_toArray, List.set_cons_zero, List.set_cons_succ]
    rfl
   refine take_ (i := 1) (N := some 28) (v := ?_) (a' := ?_) #[true, true, false, false, false, false, false, false, false, false, false, false, false, false, false, false, false, false, false] rfl rfl (by kernel_rfl) (fun _ _ _ h => h) (Or.inl ⟨by rfl, ?_⟩) hHeld ?_ ?_
   rotate_left
   ·rintro w' ⟨s0, s1, s2, s3, s4, s5, s6⟩
    go_simp
    with_reducible rfl
   rotate_left
   ·simp only [Act.put, List.setIfInBounds_toArray, List.set_cons_zero, List.set_cons_succ]
    rfl
   refine take_ (i := 2) (N := some 29) (v := ?_) (a' := ?_) #[true, true, true, false, false, false, false, false, false, false, false, false, false, false, false, false, false, false, false] rfl rfl (by kernel_rfl) (fun _ _ _ h => h) (Or.inl ⟨by rfl, ?_⟩) hHeld ?_ ?_
   rotate_left
   ·rintro w' ⟨s0, s1, s2, s3, s4, s5, s6⟩
    go_simp
    with_reducible rfl
   rotate_left
   ·simp only [Act.put, List.setIfInBounds_toArray, List.set_cons_zero, List.set_cons_succ]
    rfl
   refine take_ (i := 3) (N := some 30) (v := ?_) (a' := ?_) #[true, true, true, true, false, false, false, false, false, false, false, false, false, false, false, false, false, false, false] rfl rfl (by kernel_rfl) (fun _ _ _ h => h) (Or.inl ⟨by rfl, ?_⟩) hHeld ?_ ?_
   rotate_left
   ·rintro w' ⟨s0, s1, s2, s3, s4, s5, s6⟩
    go_simp
    with_reducible rfl
   rotate_left
   ·simp only [Act.put, List.setIfInBounds_toArray, List.set_cons_zero, List.set_cons_succ]
    rfl
   refine take_ (i := 4) (N := some 31) (v := ?_) (a' := ?_) #[true, true, true, true, true, false, false, false, false, false, false, false, false, false, false, false, false, false, false] rfl rfl (by kernel_rfl) (fun _ _ _ h => h) (Or.inl ⟨by rfl, ?_⟩) hHeld ?_ ?_
   rotate_left
   ·rintro w' ⟨s0, s1, s2, s3, s4, s5, s6⟩
    go_simp
    with_reducible rfl
   rotate_left
   ·simp only [Act.put, List.setIfInBounds_toArray, List.set_cons_zero, List.set_cons_succ]
    rfl
   refine take_ (i := 5) (N := some 32) (v := ?_) (a' := ?_) #[true, true, true, true, true, true, false, false, false, false, false, false, false, false, false, false, false, false, false] rfl rfl (by kernel_rfl) (fun _ _ _ h => h) (Or.inl ⟨by rfl, ?_⟩) hHeld ?_ ?_
   rotate_left
   ·rintro w' ⟨s0, s1, s2, s3, s4, s5, s6⟩
    go_simp
    with_reducible rfl
   rotate_left
   ·simp only [Act.put, List.setIfInBounds_toArray, List.set_cons_zero, List.set_cons_succ]
    rfl
   refine take_ (i := 6) (N := some 33) (v := ?_) (a' := ?_) #[true, true, true, true, true, true, true, false, false, false, false, false, false, false, false, false, false, false, false] rfl rfl (by kernel_rfl) (fun _ _ _ h => h) (Or.inl ⟨by rfl, ?_⟩) hHeld ?_ ?_
   rotate_left
   ·rintro w' ⟨s0, s1, s2, s3, s4, s5, s6⟩
    go_simp
    with_reducible rfl
   rotate_left
   ·simp only [Act.put, List.setIfInBounds_toArray, List.set_cons_zero, List.set_cons_succ]
    rfl
   refine take_ (i := 7) (N := some 34) (v := ?_) (a' := ?_) #[true, true, true, true, true, true, true, true, false, false, false, false, false, false, false, false, false, false, false] rfl rfl (by kernel_rfl) (fun _ _ _ h => h) (Or.inl ⟨by rfl, ?_⟩) hHeld ?_ ?_
   rotate_left
   ·rintro w' ⟨s0, s1, s2, s3, s4, s5, s6⟩
    go_simp
    with_reducible rfl
   rotate_left
   ·simp only [Act.put, List.setIfInBounds_toArray, List.set_cons_zero, List.set_cons_succ]
    rfl
   refine take_ (i := 8) (N := some 35) (v := ?_) (a' := ?_) #[true, true, true, true, true, true, true, true, true, false, false, false, false, false, false, false, false, false, false] rfl rfl (by kernel_rfl) (fun _ _ _ h => h) (Or.inl ⟨by rfl, ?_⟩) hHeld ?_ ?_
   rotate_left
   ·rintro w' ⟨s0, s1, s2, s3, s4, s5, s6⟩
    go_simp
    with_reducible rfl
   rotate_left
   ·simp only [Act.put, List.setIfInBounds_toArray, List.set_cons_zero, List.set_cons_succ]
    rfl
   refine take_ (i := 9) (N := some 36) (v := ?_) (a' := ?_) #[true, true, true, true, true, true, true, true, true, true, false, false, false, false, false, false, false, false, false] rfl rfl (by kernel_rfl) (fun _ _ _ h => h) (Or.inl ⟨by rfl, ?_⟩) hHeld ?_ ?_
   rotate_left
   ·rintro w' ⟨s0, s1, s2, s3, s4, s5, s6⟩
    go_simp
    with_reducible rfl
   rotate_left
   ·simp only [Act.put, List.setIfInBounds_toArray, List.set_cons_zero, List.set_cons_succ]
    rfl
   refine take_ (i := 10) (N := some 37) (v := ?_) (a' := ?_) #[true, true, true, true, true, true, true, true, true, true, true, false, false, false, false, false, false, false, false] rfl rfl (by kernel_rfl) (fun _ _ _ h => h) (Or.inl ⟨by rfl, ?_⟩) hHeld ?_ ?_
   rotate_left
   ·rintro w' ⟨s0, s1, s2, s3, s4, s5, s6⟩
    go_simp
    with_reducible rfl
   rotate_left
   ·simp only [Act.put, List.setIfInBounds_toArray, List.set_cons_zero, List.set_cons_succ]
    rfl
   refine take_ (i := 11) (N := some 38) (v := ?_) (a' := ?_) #[true, true, true, true, true, true, true, true, true, true, true, true, false, false, false, false, false, false, false] rfl rfl (by kernel_rfl) (fun _ _ _ h => h) (Or.inl ⟨by rfl, ?_⟩) hHeld ?_ ?_
   rotate_left
   ·rintro w' ⟨s0, s1, s2, s3, s4, s5, s6⟩
    go_simp
    with_reducible rfl
   rotate_left
   ·simp only [Act.put, List.setIfInBounds_toArray, List.set_cons_zero, List.set_cons_succ]
    rfl
   refine take_ (i := 12) (N := some 39) (v := ?_) (a' := ?_) #[true, true, true, true, true, true, true, true, true, true, true, true, true, false, false, false, false, false, false] rfl rfl (by kernel_rfl) (fun _ _ _ h => h) (Or.inl ⟨by rfl, ?_⟩) hHeld ?_ ?_
   rotate_left
   ·rintro w' ⟨s0, s1, s2, s3, s4, s5, s6⟩
    go_simp
    with_reducible rfl
   rotate_left
   ·simp only [Act.put, List.setIfInBounds_toArray, List.set_cons_zero, List.set_cons_succ]
    rfl
   refine take_ (i := 13) (N := some 40) (v := ?_) (a' := ?_) #[true, true, true, true, true, true, true, true, true, true, true, true, true, true, false, false, false, false, false] rfl rfl (by kernel_rfl) (fun _ _ _ h => h) (Or.inl ⟨by rfl, ?_⟩) hHeld ?_ ?_
   rotate_left
   ·rintro w' ⟨s0, s1, s2, s3, s4, s5, s6⟩
    go_simp
    with_reducible rfl
   rotate_left
   ·simp only [Act.put, List.setIfInBounds_toArray, List.set_cons_zero, List.set_cons_succ]
    rfl
   refine take_ (i := 14) (N := some 41) (v := ?_) (a' := ?_) #[true, true, true, true, true, true, true, true, true, true, true, true, true, true, true, false, false, false, false] rfl rfl (by kernel_rfl) (fun _ _ _ h => h) (Or.inl ⟨by rfl, ?_⟩) hHeld ?_ ?_
   rotate_left
   ·rintro w' ⟨s0, s1, s2, s3, s4, s5, s6⟩
    go_simp
    with_reducible rfl
   rotate_left
   ·simp only [Act.put, List.setIfInBounds_toArray, List.set_cons_zero, List.set_cons_succ, i64_w, hww]
    rfl
   refine take_ (i := 15) (N := some 42) (v := ?_) (a' := ?_) #[true, true, true, true, true, true, true, true, true, true, true, true, true, true, true, true, false, false, false] rfl rfl (by kernel_rfl) (fun _ _ _ h => h) (Or.inl ⟨by rfl, ?_⟩) hHeld ?_ ?_
   rotate_left
   ·rintro w' ⟨s0, s1, s2, s3, s4, s5, s6⟩
    go_simp
    with_reducible rfl
   rotate_left
   ·simp only [Act.put, List.setIfInBounds_toArray, List.set_cons_zero, List.set_cons_succ]
    rfl
   refine one_ (i := 16) (N := some 43) #[true, true, true, true, true, true, true, true, true, true, true, true, true, true, true, true, true, false, false] rfl rfl (by kernel_rfl) (by decide) (fun K hK => ?_)
   refine value_ (w1 := ?_) (v := ?_) (by rfl) rfl ?_ ?_
   rotate_left 2
   ·go_simp
    constructor
    ·rfl
    ·rfl
   refine hK.out _ _ ?_ (fun hHeld => ?_)
   ·obtain ⟨s0, s1, s2, s3, s4, s5, s6⟩ := hHeld
    have hal := below_alloc (Below.refl _ Wd)
    exact ⟨Kd.cell_heap (hal _).block s0, Kd.cell_heap (hal _).block s1, Kd.cell_heap (hal _).block s2, Kd.cell_heap (hal _).block s3, Kd.cell_heap (hal _).block s4, Kd.cell_heap (hal _).block s5, Kd.cell_heap (hal _).block s6⟩
   clear hK K
   refine norm_ (a' := ?_) ?_ ?_
   rotate_left
   ·show Act.put _ (some 43) _ = _
    simp only [Act.put, List.setIfInBounds_toArray, List.set_cons_zero, List.set_cons_succ]
    rfl
   have hnw := World.alloc_heap_new Wd (Obj.cells #[.slice Av acc.length cv, .slice Ax_ xa.length (c0 - fr.toNat), .slice Ay_ xb.length (c2 - hd.f2.toNat)] 25)
   have hba : Below Wd.heap.size Wd (Wd.alloc (Obj.cells #[.slice Av acc.length cv, .slice Ax_ xa.length (c0 - fr.toNat), .slice Ay_ xb.length (c2 - hd.f2.toNat)] 25)) := below_alloc (Below.refl _ _) _
   have hRd : Kd.R Kd.string 9 Wd w.heap.size (fun _ => True) (.slice Av acc.length cv) acc := by rw [← HW.out]; exact Kd.R_drew h4
   have dB2 := hunk_Patch.belowTr hba dB
   have hRa := Kd.R_reads' (Kd.R_below hRd hba)
   have hC3 := hunk_Patch.C3 hnw hRa.2.1 hRa.2.2 hA3 (Kd.C_below kA dB2) hB3' (Kd.C_below kB dB2)
   have hcat : slices_Concat.f [acc, xa, xb] = some (acc ++ (xa ++ xb)) := by
    have g6 := G6.out
    unfold slices_Concat.f
    rw [if_pos ⟨by simp, by simp only [List.flatten_cons, List.flatten_nil, List.length_append, List.append_nil]; omega⟩]
    simp
   obtain ⟨Wa, hWa⟩ : ∃ x, Wd.alloc (Obj.cells #[.slice Av acc.length cv, .slice Ax_ xa.length (c0 - fr.toNat), .slice Ay_ xb.length (c2 - hd.f2.toNat)] 25) = x := ⟨_, rfl⟩
   rw [hWa] at hnw hba dB2 hC3 hRa hHeld ⊢
   clear hWa
   refine one_ (i := 17) (N := some 44) #[true, true, true, true, true, true, true, true, true, true, true, true, true, true, true, true, true, true, false] rfl rfl (by kernel_rfl) (by decide) (fun K hK => ?_)
   refine goes_ Try.func30 (by kernel_rfl) rfl #[.slice (some ⟨Wd.heap.size, 0, none⟩) [acc, xa, xb].length 3] (by rfl) rfl rfl (by simp only [List.map_toArray, List.map_cons, List.map_nil]; rfl) ?_
   refine (slices_Concat.calls _ 3 [acc, xa, xb] _ Wa hC3 (by simp) hcat).mono ?_
   rintro e w' ⟨v1, rfl, hR1, hBc⟩
   refine ⟨_, rfl, ?_⟩
   refine hK.out _ _ ?_ (fun hHeld => ?_)
   ·obtain ⟨s0, s1, s2, s3, s4, s5, s6⟩ := hHeld
    exact ⟨Kd.cell_heap (hBc).block s0, Kd.cell_heap (hBc).block s1, Kd.cell_heap (hBc).block s2, Kd.cell_heap (hBc).block s3, Kd.cell_heap (hBc).block s4, Kd.cell_heap (hBc).block s5, Kd.cell_heap (hBc).block s6⟩
   clear hK K
   refine norm_ (a' := ?_) ?_ ?_
   rotate_left
   ·show Act.put _ (some 44) _ = _
    simp only [Act.put, List.setIfInBounds_toArray, List.set_cons_zero, List.set_cons_succ]
    rfl
   generalize hacc : acc ++ (xa ++ xb) = acc2 at hR1 hsn
   have HACC := Lib.hid hacc
   clear hacc hcat hC3 hRa
   obtain ⟨Aq_, cq_, rfl⟩ := Kd.R_slice hR1
   have hsz : w.heap.size ≤ Wa.heap.size := dB2.size
   have hO1 : Boxed w' Bo 25 (.slice Av acc.length cv) := hunk_Patch.Bx_below hBc (hunk_Patch.Bx_below hba (by rw [← HW.out]; exact h3))
   have co := hO1.cell
   have fo := hO1.frozen
   have hBW : Below W.heap.size W w' := (show Below W.heap.size W Wd by rw [← HW.out]; exact (Below.refl _ W).drew).trans ((hba.trans (hBc.mono hba.size)).mono (by rw [← HW.out]; exact Nat.le_refl _))
   refine last_ (i := 18) (N := none) #[true, true, true, true, true, true, true, true, true, true, true, true, true, true, true, true, true, true, true] rfl rfl (by kernel_rfl) (by decide) (fun K hK => ?_)
   obtain ⟨nq_, hnq⟩ : ∃ n, acc2.length = n := ⟨_, rfl⟩
   rw [hnq] at hR1 ⊢
   have HNQ := Lib.hid hnq
   clear hnq
   go_simp
   refine hK.out _ _ ?_
   clear hK K
   refine done_ (by kernel_rfl) ?_
   have far : ∀ (k' : Nat) (cs : Array Value) (t : TypeId), t ≠ 25 → w'.heap[k']? = some (.cells cs t (0, 0)) → (w'.setCell ⟨Bo, 0, none⟩ (.slice Aq_ nq_ cq_)).heap[k']? = w'.heap[k']? := fun k' cs t ht hc => Below.heap_setCell _ _ _ _ (by intro e; have e : k' = Bo := e; rw [e, show w'.heap[Bo]? = _ from hO1] at hc; cases hc; exact ht rfl)
   have hBw : Below w.heap.size w w' := hunk_Patch.belowTr hBW h1
   have bx : ∀ (B : Nat) (u : Value), B ≠ Bo → Boxed W B 25 u → Boxed (w'.setCell ⟨Bo, 0, none⟩ (.slice Aq_ nq_ cq_)) B 25 u := fun B u hne hb => (Below.heap_setCell _ _ _ _ (fun e => hne e)).trans (hunk_Patch.Bx_below hBW hb)
   refine ⟨⟨?_, ?_⟩, ⟨?_, ?_⟩, hBw.setCell (p := ⟨Bo, 0, none⟩) (by show w.heap.size ≤ Bo; omega) _, _, _, hsn, ?_, hO1.set _, hunk_Patch.Rs_step (Kd.R_lower hR1 hsz) (fun k' cs hc => far k' cs 9 (by decide) hc), bx _ _ (by omega) h5, bx _ _ (by omega) h6⟩
   ·rw [World.size_setCell]; exact hBW.size
   ·intro k' o' hk' ho'
    refine (Below.heap_setCell _ _ _ _ ?_).trans ((hBW.block k' (Array.getElem?_eq_some_iff.1 hk').1).trans hk')
    intro e; have e : k' = Bo := e; rw [e, show W.heap[Bo]? = _ from h3] at hk'; cases hk'; cases ho'
   ·intro k' hk'
    exact (Below.heap_setCell _ _ _ _ (by intro e; have e : k' = Bo := e; omega)).trans (hBW.block k' (Nat.lt_of_lt_of_le hk' h1.size))
   ·intro k' cs t ht hc
    have hc' := (hBW.block k' (Array.getElem?_eq_some_iff.1 hc).1).trans hc
    exact (far k' cs t ht hc').trans (hBW.block k' (Array.getElem?_eq_some_iff.1 hc).1)
   ·rw [← HACC.out]; have g6 := G6.out; simp only [List.length_append]; omega
 ·rw [if_neg he] at h
  cases h
  gi_wp2_with (refine ⟨trivial, ?_⟩; gi_at_call 17; refine (callsIn_wide.2 (hunk_Check.calls k _ _ _ _ _ _ _ (Kd.C_below hr1 hB2) hc1 hck)).mono ?_; rintro e w' ⟨rfl, hB⟩)
  exact ⟨_, results_tmp2 rfl _ _ _, _, rfl, Kd.R_nil _ _ _ _ _, hunk_Patch.belowTr hB hB2⟩
end
theorem hunk_Patch.calls (k : Nat) (A0 : Option Addr) (c0 : Nat) (l0 : List ByteArray) (A1 : Option Addr) (c1 : Nat) (l1 : List (S40)) (A2 : Option Addr) (c2 : Nat) (l2 : List ByteArray) (r1 : List ByteArray) (r2 : Int) (w : World) (hr0 : Kd.C Kd.string w A0 l0.length l0) (hc0 : l0.length ≤ c0) (hr1 : Kd.C k40 w A1 l1.length l1) (hc1 : l1.length ≤ c1) (hr2 : Kd.C Kd.string w A2 l2.length l2) (hc2 : l2.length ≤ c2) (h : hunk_Patch.f k l0 l1 l2 = some (r1, r2)) :
  Calls Try.prog 14 #[.slice A0 l0.length c0, .slice A1 l1.length c1, .slice A2 l2.length c2] w fun e w' => ∃ v0_ : Value, e = .returned (.tuple #[v0_, .int .i64 r2]) ∧ Kd.R Kd.string 9 w' w.heap.size (fun _ => True) v0_ r1 ∧ Below w.heap.size w w' :=
 callsIn_wide.1 (hunk_Patch.run k A0 A1 A2 c0 c1 c2 l0 l1 l2 r1 r2 w hr0 hc0 hr1 hc1 hr2 hc2 h)
end Go.Proofs.Ytphghffdaceaoaa.PHunk
