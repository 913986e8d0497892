/- Whether hunks may be, a row with hunks, the other way and the cost: the program and the document's definition run to the same. -/
import Derived.Test.YtphghffdaceaoaaPHunkx17
import Derived.Test.YtphghffdaceaoaaOpen
namespace Go.Proofs.Ytphghffdaceaoaa.Pure
open Go.RowKit Go.Proofs.Ytphghffdaceaoaa Go.Proofs.Ytphghffdaceaoaa.PHunk Go.Proofs.YtphghffdaceaoaaW.PrintWords Go.Proofs.YtphghffdaceaoaaW.PrintLast Go.Proofs.YtphghffdaceaoaaW.PrintMore
set_option linter.unusedVariables false
set_option linter.unusedSimpArgs false
/-! ### the longest common rows: mathematics alone -/
def lcs : List Int → List Int → Nat
 | [], _ => 0
 | _ :: _, [] => 0
 | x :: xs, y :: ys => if x = y then lcs xs ys + 1 else max (lcs xs (y :: ys)) (lcs (x :: xs) ys)
termination_by xs ys => xs.length + ys.length
/-- what of a row is held to be one of the other's things, from place k of that on -/
def held : List Int → List Int → Nat → List Int
 | [], _, _ => []
 | x :: xs, [], _ => List.replicate (xs.length + 1) (-1)
 | x :: xs, y :: ys, k => if x = y then (k : Int) :: held xs ys (k + 1) else if lcs xs (y :: ys) ≥ lcs (x :: xs) ys then (-1) :: held xs (y :: ys) k else held (x :: xs) ys (k + 1)
termination_by xs ys _ => xs.length + ys.length
/-! ### what the printed functions come to -/
theorem w64 {x : Int} (h0 : -9223372036854775808 ≤ x) (h1 : x ≤ 9223372036854775807) : wrap64 x = x := by unfold wrap64; omega
/-! ### the reference -/
/-! ### texts as numbers: what both come to -/
/-! the document's own -/
/-! what hunks a match leaves -/
theorem wi (i : Nat) (h : i ≤ 1000000000) : wrap64 ((i : Int) + 1) = ((i + 1 : Nat) : Int) := by rw [w64 (by omega) (by omega)]; omega
def mt (n : Int) : List Int → Int → Bool
 | [], _ => decide (n ≥ 0)
 | x :: l, last => if x < -1 then false else if x ≥ n then false else if x ≥ 0 then (if x ≤ last then false else mt n l (mx last x)) else mt n l (mx last x)
def hk (n : Int) : List Int → Int → Int → Int → List S40
 | [], i, a, b => if i > a ∨ n > b then [⟨a, i - a, b, n - b⟩] else []
 | x :: l, i, a, b => if x < 0 then hk n l (i + 1) a b else (if i > a ∨ x > b then [⟨a, i - a, b, x - b⟩] else []) ++ hk n l (i + 1) (i + 1) (x + 1)
def O (m : List Int) (n : Int) : List S40 := if mt n m (-1) = true then hk n m 0 0 0 else []
theorem at40 {L : List S40} {i : Nat} {y : S40} {r : List S40} (h : L.drop i = y :: r) : i < L.length ∧ rd_T40 L (i : Int) = y ∧ L.drop (i + 1) = r := by
 have h1 : i < L.length := by
  rcases Nat.lt_or_ge i L.length with g | g
  ·exact g
  ·rw [List.drop_eq_nil_of_le g] at h; cases h
 rw [List.drop_eq_getElem_cons h1] at h
 injection h with e1 e2
 refine ⟨h1, ?_, e2⟩
 show L.getD i z40 = y
 rw [List.getD_eq_getElem?_getD, List.getElem?_eq_getElem h1]; exact e1
theorem same6_loop (L : List S40) (hL : L.length ≤ 1000000) : ∀ (l : List S40) (i : Nat), L.drop i = l → i ≤ L.length → Ev (fun k => r06_Same.l0 k L L (i : Int)) true
 | [], i, h, hi => by
  have : L.length ≤ i := by have := congrArg List.length h; rw [List.length_drop, List.length_nil] at this; omega
  exact Ev.step (f := fun _ => some true) (fun k => by simp only [r06_Same.l0]; rw [if_neg (by omega)]) (Ev.now _)
 | y :: r, i, h, hi => by
  obtain ⟨h1, h2, h3⟩ := at40 h
  exact Ev.step (fun k => by simp only [r06_Same.l0]; rw [if_pos (by omega), if_pos (by omega), if_pos (by omega), if_neg (by simp), wi i (by omega)]) (same6_loop L hL r (i + 1) h3 (by omega))
theorem same6_runs (L : List S40) (hL : L.length ≤ 1000000) : Ev (fun k => r06_Same.f k L L) true :=
 Ev.congr (fun k => if_pos rfl) (same6_loop L hL L 0 rfl (Nat.zero_le _))
theorem awake_runs : Ev (fun k => l06_awake.f k) true := Ev.of (l06_awake.mono) (k := 60) (by decide +kernel)
/-! whether hunks may be -/
def W64 (x : Int) : Prop := -9223372036854775808 ≤ x ∧ x ≤ 9223372036854775807
def WfH (h : S40) : Prop := W64 h.f0 ∧ W64 h.f1 ∧ W64 h.f2 ∧ W64 h.f3
def okh (n m : Int) (i : Nat) (a b : Int) (h : S40) : Prop := a ≤ h.f0 ∧ b ≤ h.f2 ∧ h.f0 - a = h.f2 - b ∧ (0 < i → h.f0 ≠ a) ∧ 0 ≤ h.f1 ∧ 0 ≤ h.f3 ∧ (h.f1 ≠ 0 ∨ h.f3 ≠ 0) ∧ h.f0 ≤ n ∧ h.f2 ≤ m ∧ h.f1 ≤ n - h.f0 ∧ h.f3 ≤ m - h.f2
instance (n m : Int) (i : Nat) (a b : Int) (h : S40) : Decidable (okh n m i a b h) := by unfold okh; infer_instance
def may (n m : Int) : List S40 → Nat → Int → Int → Bool
 | [], _, a, b => decide (n - a = m - b ∧ a ≤ n)
 | h :: l, i, a, b => if okh n m i a b h then may n m l (i + 1) (h.f0 + h.f1) (h.f2 + h.f3) else false
def chk (n m : Int) (l : List S40) (i : Nat) (a b : Int) : Int := if may n m l i a b = true then 0 else 60
theorem chk_bad {n m : Int} {h : S40} {l : List S40} {i : Nat} {a b : Int} (hb : ¬ okh n m i a b h) : chk n m (h :: l) i a b = 60 := by unfold chk; rw [may, if_neg hb]; rfl
theorem chk_ok {n m : Int} {h : S40} {l : List S40} {i : Nat} {a b : Int} (hb : okh n m i a b h) : chk n m (h :: l) i a b = chk n m l (i + 1) (h.f0 + h.f1) (h.f2 + h.f3) := by unfold chk; rw [may, if_pos hb]
theorem check_loop (n m : Int) (hn : 0 ≤ n) (hn2 : n ≤ 1000000) (hm : 0 ≤ m) (hm2 : m ≤ 1000000) (L : List S40) (hL : L.length ≤ 1000000) (hw : ∀ h ∈ L, WfH h) : ∀ (l : List S40) (i : Nat) (a b : Int), L.drop i = l → i ≤ L.length → 0 ≤ a → a ≤ n → 0 ≤ b → b ≤ m →
  Ev (fun k => hunk_Check.l0 k n m a b L (L.length : Int) (i : Int)) (chk n m l i a b)
 | [], i, a, b, h, hi, a0, a1, b0, b1 => by
  have : L.length ≤ i := by have := congrArg List.length h; rw [List.length_drop, List.length_nil] at this; omega
  have e1 : wrap64 (n - a) = n - a := w64 (by omega) (by omega)
  have e2 : wrap64 (m - b) = m - b := w64 (by omega) (by omega)
  refine Ev.step (f := fun _ => some (chk n m [] i a b)) (fun k => ?_) (Ev.now _)
  simp only [hunk_Check.l0]
  rw [if_neg (by omega), e1, e2]
  unfold chk
  rw [may]
  by_cases c : n - a = m - b
  ·rw [if_pos c, if_neg (by omega), if_pos (decide_eq_true ⟨c, a1⟩)]
  ·rw [if_neg c, if_neg (by simp [c])]
 | y :: l, i, a, b, h, hi, a0, a1, b0, b1 => by
  obtain ⟨g1, g2, g3⟩ := at40 h
  obtain ⟨w0, w1, w2, w3⟩ := hw y (by rw [← List.take_append_drop i L, h]; simp)
  unfold W64 at w0 w1 w2 w3
  have st : ∀ {r : Int} {x : Bool}, (∀ k, hunk_Check.l0 (k + 1) n m a b L (L.length : Int) (i : Int) = hunk_Check.j1 k n m L (L.length : Int) (i : Int) x y.f0 y.f1 y.f2 y.f3) → Ev (fun k => hunk_Check.j1 k n m L (L.length : Int) (i : Int) x y.f0 y.f1 y.f2 y.f3) r → Ev (fun k => hunk_Check.l0 k n m a b L (L.length : Int) (i : Int)) r := fun e h => Ev.step e h
  have bad1 : Ev (fun k => hunk_Check.j1 k n m L (L.length : Int) (i : Int) true y.f0 y.f1 y.f2 y.f3) 60 := Ev.step (f := fun _ => some 60) (fun k => by simp only [hunk_Check.j1]; rw [if_pos trivial]) (Ev.now _)
  by_cases c1 : y.f0 < a
  ·rw [chk_bad (fun h => by have := h.1; omega)]
   exact st (fun k => by simp only [hunk_Check.l0]; rw [if_pos (by omega), if_pos (by omega), if_pos (by omega), g2, if_pos c1, decide_eq_true c1]) bad1
  by_cases c2 : y.f2 < b
  ·rw [chk_bad (fun h => by have := h.2.1; omega)]
   exact st (fun k => by simp only [hunk_Check.l0]; rw [if_pos (by omega), if_pos (by omega), if_pos (by omega), g2, if_neg c1, if_pos c2, decide_eq_true c2]) bad1
  have e1 : wrap64 (y.f0 - a) = y.f0 - a := w64 (by omega) (by omega)
  have e2 : wrap64 (y.f2 - b) = y.f2 - b := w64 (by omega) (by omega)
  by_cases c3 : y.f0 - a = y.f2 - b
  case neg =>
   rw [chk_bad (fun h => c3 h.2.2.1)]
   exact st (x := true) (fun k => by simp only [hunk_Check.l0]; rw [if_pos (by omega), if_pos (by omega), if_pos (by omega), g2, if_neg c1, if_neg c2, e1, e2, if_neg c3, bne_iff_ne.2 c3]) bad1
  by_cases c4 : 0 < i ∧ y.f0 = a
  ·rw [chk_bad (fun h => h.2.2.2.1 c4.1 c4.2)]
   refine st (x := true) (fun k => ?_) bad1
   simp only [hunk_Check.l0]
   rw [if_pos (by omega), if_pos (by omega), if_pos (by omega), g2, if_neg c1, if_neg c2, e1, e2, if_pos c3, if_pos (by omega), show (y.f0 - a == 0) = true by simp; omega]
  have first : ∀ k, hunk_Check.l0 (k + 1) n m a b L (L.length : Int) (i : Int) = hunk_Check.j1 k n m L (L.length : Int) (i : Int) false y.f0 y.f1 y.f2 y.f3 := fun k => by
   simp only [hunk_Check.l0]
   rw [if_pos (by omega), if_pos (by omega), if_pos (by omega), g2, if_neg c1, if_neg c2, e1, e2, if_pos c3]
   by_cases c : (i : Int) > 0
   ·rw [if_pos c, show (y.f0 - a == 0) = false by simp; omega]
   ·rw [if_neg c]
  refine st first ?_
  have bad2 : Ev (fun k => hunk_Check.j2 k n m L (L.length : Int) (i : Int) true y.f0 y.f1 y.f2 y.f3) 60 := Ev.step (f := fun _ => some 60) (fun k => by simp only [hunk_Check.j2]; rw [if_pos trivial]) (Ev.now _)
  by_cases c5 : y.f1 < 0
  ·rw [chk_bad (fun h => by have := h.2.2.2.2.1; omega)]
   exact Ev.step (fun k => by simp only [hunk_Check.j1]; rw [if_neg (by decide), if_pos c5, decide_eq_true c5]) bad2
  by_cases c6 : y.f3 < 0
  ·rw [chk_bad (fun h => by have := h.2.2.2.2.2.1; omega)]
   exact Ev.step (fun k => by simp only [hunk_Check.j1]; rw [if_neg (by decide), if_neg c5, if_pos c6, decide_eq_true c6]) bad2
  by_cases c7 : y.f1 = 0 ∧ y.f3 = 0
  ·rw [chk_bad (fun h => by have := h.2.2.2.2.2.2.1; omega)]
   exact Ev.step (fun k => by simp only [hunk_Check.j1]; rw [if_neg (by decide), if_neg c5, if_neg c6, if_pos c7.1, show (y.f3 == 0) = true by simp [c7.2]]) bad2
  refine Ev.step (f := fun k => hunk_Check.j2 k n m L (L.length : Int) (i : Int) false y.f0 y.f1 y.f2 y.f3) (fun k => ?_) ?_
  ·simp only [hunk_Check.j1]
   rw [if_neg (by decide), if_neg c5, if_neg c6]
   by_cases c : y.f1 = 0
   ·rw [if_pos c, show (y.f3 == 0) = false by simp; omega]
   ·rw [if_neg c]
  by_cases c8 : y.f0 > n
  ·rw [chk_bad (fun h => by have := h.2.2.2.2.2.2.2.1; omega)]
   exact Ev.step (f := fun _ => some 60) (fun k => by simp only [hunk_Check.j2]; rw [if_neg (by decide), if_pos c8]) (Ev.now _)
  by_cases c9 : y.f2 > m
  ·rw [chk_bad (fun h => by have := h.2.2.2.2.2.2.2.2.1; omega)]
   exact Ev.step (f := fun _ => some 60) (fun k => by simp only [hunk_Check.j2]; rw [if_neg (by decide), if_neg c8, if_pos c9]) (Ev.now _)
  have e3 : wrap64 (n - y.f0) = n - y.f0 := w64 (by omega) (by omega)
  have e4 : wrap64 (m - y.f2) = m - y.f2 := w64 (by omega) (by omega)
  by_cases c10 : y.f1 > n - y.f0
  ·rw [chk_bad (fun h => by have := h.2.2.2.2.2.2.2.2.2.1; omega)]
   exact Ev.step (f := fun _ => some 60) (fun k => by simp only [hunk_Check.j2]; rw [if_neg (by decide), if_neg c8, if_neg c9, e3, if_pos c10]) (Ev.now _)
  by_cases c11 : y.f3 > m - y.f2
  ·rw [chk_bad (fun h => by have := h.2.2.2.2.2.2.2.2.2.2; omega)]
   exact Ev.step (f := fun _ => some 60) (fun k => by simp only [hunk_Check.j2]; rw [if_neg (by decide), if_neg c8, if_neg c9, e3, if_neg c10, e4, if_pos c11]) (Ev.now _)
  rw [chk_ok ⟨by omega, by omega, c3, fun h1 h2 => c4 ⟨h1, h2⟩, by omega, by omega, by omega, by omega, by omega, by omega, by omega⟩]
  have e5 : wrap64 (y.f0 + y.f1) = y.f0 + y.f1 := w64 (by omega) (by omega)
  have e6 : wrap64 (y.f2 + y.f3) = y.f2 + y.f3 := w64 (by omega) (by omega)
  exact Ev.step (fun k => by simp only [hunk_Check.j2]; rw [if_neg (by decide), if_neg c8, if_neg c9, e3, if_neg c10, e4, if_neg c11, e5, e6, wi i (by omega)]) (check_loop n m hn hn2 hm hm2 L hL hw l (i + 1) (y.f0 + y.f1) (y.f2 + y.f3) g3 (by omega) (by omega) (by omega) (by omega) (by omega))
/-! whether hunks may be (the reference), and a row with hunks -/
theorem refmay_loop (n m : Int) (hn : 0 ≤ n) (hn2 : n ≤ 1000000) (hm : 0 ≤ m) (hm2 : m ≤ 1000000) (L : List S40) (hL : L.length ≤ 1000000) (hw : ∀ h ∈ L, WfH h) : ∀ (l : List S40) (i : Nat) (a b : Int), L.drop i = l → i ≤ L.length → 0 ≤ a → a ≤ n → 0 ≤ b → b ≤ m →
  Ev (fun k => r06_May.l0 k L n m a b (i : Int)) (may n m l i a b)
 | [], i, a, b, h, hi, a0, a1, b0, b1 => by
  have : L.length ≤ i := by have := congrArg List.length h; rw [List.length_drop, List.length_nil] at this; omega
  have e1 : wrap64 (n - a) = n - a := w64 (by omega) (by omega)
  have e2 : wrap64 (m - b) = m - b := w64 (by omega) (by omega)
  refine Ev.step (f := fun _ => some (may n m [] i a b)) (fun k => ?_) (Ev.now _)
  simp only [r06_May.l0]
  rw [if_neg (by omega), e1, e2, may]
  by_cases c : n - a = m - b
  ·rw [if_pos c]; simp [c]
  ·rw [if_neg c]; simp [c]
 | y :: l, i, a, b, h, hi, a0, a1, b0, b1 => by
  obtain ⟨g1, g2, g3⟩ := at40 h
  obtain ⟨w0, w1, w2, w3⟩ := hw y (by rw [← List.take_append_drop i L, h]; simp)
  unfold W64 at w0 w1 w2 w3
  have st : ∀ {r : Bool} {x : Bool}, (∀ k, r06_May.l0 (k + 1) L n m a b (i : Int) = r06_May.j1 k L n m (i : Int) x y.f0 y.f1 y.f2 y.f3) → Ev (fun k => r06_May.j1 k L n m (i : Int) x y.f0 y.f1 y.f2 y.f3) r → Ev (fun k => r06_May.l0 k L n m a b (i : Int)) r := fun e h => Ev.step e h
  have bad1 : Ev (fun k => r06_May.j1 k L n m (i : Int) true y.f0 y.f1 y.f2 y.f3) false := Ev.step (f := fun _ => some false) (fun k => by simp only [r06_May.j1]; rw [if_pos trivial]) (Ev.now _)
  have no : ¬ okh n m i a b y → may n m (y :: l) i a b = false := fun hb => by rw [may, if_neg hb]
  by_cases c5 : y.f1 < 0
  ·rw [no (fun h => by have := h.2.2.2.2.1; omega)]
   exact st (fun k => by simp only [r06_May.l0]; rw [if_pos (by omega), if_pos (by omega), g2, if_pos c5]) bad1
  by_cases c6 : y.f3 < 0
  ·rw [no (fun h => by have := h.2.2.2.2.2.1; omega)]
   exact st (fun k => by simp only [r06_May.l0]; rw [if_pos (by omega), if_pos (by omega), g2, if_neg c5, if_pos c6]) bad1
  by_cases c7 : y.f1 = 0 ∧ y.f3 = 0
  ·rw [no (fun h => by have := h.2.2.2.2.2.2.1; omega)]
   exact st (fun k => by simp only [r06_May.l0]; rw [if_pos (by omega), if_pos (by omega), g2, if_neg c5, if_neg c6, if_pos c7.1, if_pos c7.2]) bad1
  have mid : ∀ (k : Nat) (r : Option Bool), (if y.f0 < a then r06_May.j1 k L n m (i : Int) true y.f0 y.f1 y.f2 y.f3 else if y.f2 < b then r06_May.j1 k L n m (i : Int) true y.f0 y.f1 y.f2 y.f3 else if wrap64 (y.f0 - a) = wrap64 (y.f2 - b) then (if (i : Int) > 0 then r06_May.j1 k L n m (i : Int) (y.f0 == a) y.f0 y.f1 y.f2 y.f3 else r06_May.j1 k L n m (i : Int) false y.f0 y.f1 y.f2 y.f3) else r06_May.j1 k L n m (i : Int) true y.f0 y.f1 y.f2 y.f3) = r → r06_May.l0 (k + 1) L n m a b (i : Int) = r := fun k r e => by
   simp only [r06_May.l0]
   rw [if_pos (by omega), if_pos (by omega), g2, if_neg c5, if_neg c6]
   by_cases c : y.f1 = 0
   ·rw [if_pos c, if_neg (by omega)]; exact e
   ·rw [if_neg c]; exact e
  by_cases c1 : y.f0 < a
  ·rw [no (fun h => by have := h.1; omega)]
   exact st (fun k => mid k _ (by rw [if_pos c1])) bad1
  by_cases c2 : y.f2 < b
  ·rw [no (fun h => by have := h.2.1; omega)]
   exact st (fun k => mid k _ (by rw [if_neg c1, if_pos c2])) bad1
  have e1 : wrap64 (y.f0 - a) = y.f0 - a := w64 (by omega) (by omega)
  have e2 : wrap64 (y.f2 - b) = y.f2 - b := w64 (by omega) (by omega)
  by_cases c3 : y.f0 - a = y.f2 - b
  case neg =>
   rw [no (fun h => c3 h.2.2.1)]
   exact st (fun k => mid k _ (by rw [if_neg c1, if_neg c2, e1, e2, if_neg c3])) bad1
  by_cases c4 : 0 < i ∧ y.f0 = a
  ·rw [no (fun h => h.2.2.2.1 c4.1 c4.2)]
   exact st (x := true) (fun k => mid k _ (by rw [if_neg c1, if_neg c2, e1, e2, if_pos c3, if_pos (by omega), show (y.f0 == a) = true by simp; omega])) bad1
  refine st (x := false) (fun k => mid k _ (by
   rw [if_neg c1, if_neg c2, e1, e2, if_pos c3]
   by_cases c : (i : Int) > 0
   ·rw [if_pos c, show (y.f0 == a) = false by simp; omega]
   ·rw [if_neg c])) ?_
  by_cases c8 : y.f0 > n
  ·rw [no (fun h => by have := h.2.2.2.2.2.2.2.1; omega)]
   exact Ev.step (f := fun _ => some false) (fun k => by simp only [r06_May.j1]; rw [if_neg (by decide), if_pos c8]) (Ev.now _)
  by_cases c9 : y.f2 > m
  ·rw [no (fun h => by have := h.2.2.2.2.2.2.2.2.1; omega)]
   exact Ev.step (f := fun _ => some false) (fun k => by simp only [r06_May.j1]; rw [if_neg (by decide), if_neg c8, if_pos c9]) (Ev.now _)
  have e3 : wrap64 (n - y.f0) = n - y.f0 := w64 (by omega) (by omega)
  have e4 : wrap64 (m - y.f2) = m - y.f2 := w64 (by omega) (by omega)
  by_cases c10 : y.f1 > n - y.f0
  ·rw [no (fun h => by have := h.2.2.2.2.2.2.2.2.2.1; omega)]
   exact Ev.step (f := fun _ => some false) (fun k => by simp only [r06_May.j1]; rw [if_neg (by decide), if_neg c8, if_neg c9, e3, if_pos c10]) (Ev.now _)
  by_cases c11 : y.f3 > m - y.f2
  ·rw [no (fun h => by have := h.2.2.2.2.2.2.2.2.2.2; omega)]
   exact Ev.step (f := fun _ => some false) (fun k => by simp only [r06_May.j1]; rw [if_neg (by decide), if_neg c8, if_neg c9, e3, if_neg c10, e4, if_pos c11]) (Ev.now _)
  have yes : okh n m i a b y := ⟨by omega, by omega, c3, fun h1 h2 => c4 ⟨h1, h2⟩, by omega, by omega, by omega, by omega, by omega, by omega, by omega⟩
  rw [show may n m (y :: l) i a b = may n m l (i + 1) (y.f0 + y.f1) (y.f2 + y.f3) by rw [may, if_pos yes]]
  have e5 : wrap64 (y.f0 + y.f1) = y.f0 + y.f1 := w64 (by omega) (by omega)
  have e6 : wrap64 (y.f2 + y.f3) = y.f2 + y.f3 := w64 (by omega) (by omega)
  exact Ev.step (fun k => by simp only [r06_May.j1]; rw [if_neg (by decide), if_neg c8, if_neg c9, e3, if_neg c10, e4, if_neg c11, e5, e6, wi i (by omega)]) (refmay_loop n m hn hn2 hm hm2 L hL hw l (i + 1) (y.f0 + y.f1) (y.f2 + y.f3) g3 (by omega) (by omega) (by omega) (by omega) (by omega))
theorem refmay_runs {n m : Nat} (hn : n ≤ 1000000) (hm : m ≤ 1000000) {L : List S40} (hL : L.length ≤ 1000000) (hw : ∀ h ∈ L, WfH h) : Ev (fun k => r06_May.f k L (n : Int) (m : Int)) (may n m L 0 0 0) :=
 refmay_loop n m (by omega) (by omega) (by omega) (by omega) L hL hw L 0 0 0 rfl (Nat.zero_le _) (by omega) (by omega) (by omega) (by omega)
theorem check_runs {n m : Nat} (hn : n ≤ 1000000) (hm : m ≤ 1000000) {L : List S40} (hL : L.length ≤ 1000000) (hw : ∀ h ∈ L, WfH h) : Ev (fun k => hunk_Check.f k L (n : Int) (m : Int)) (chk n m L 0 0 0) :=
 check_loop n m (by omega) (by omega) (by omega) (by omega) L hL hw L 0 0 0 rfl (Nat.zero_le _) (by omega) (by omega) (by omega) (by omega)
theorem may_fit {n m : Int} (hn : n ≤ 1000000) : ∀ {l : List S40} {i : Nat} {a b : Int}, 0 ≤ a → may n m l i a b = true → hunk_Patch.fit l = true
 | [], _, _, _, _, _ => rfl
 | y :: l, i, a, b, a0, h => by
  rw [may] at h
  by_cases c : okh n m i a b y
  ·rw [if_pos c] at h
   have := may_fit hn (l := l) (by have := c.1; have := c.2.2.2.2.1; omega) h
   unfold hunk_Patch.fit at this ⊢
   rw [List.all_cons, this, Bool.and_true]
   obtain ⟨c0, c1, c2, c3, c4, c5, c6, c7, c8, c9, c10⟩ := c
   exact decide_eq_true ⟨by omega, by omega, by omega, by omega⟩
  ·rw [if_neg c] at h; cases h
def pat (A B : List ByteArray) : List S40 → Int → List ByteArray
 | [], p => A.drop p.toNat
 | h :: l, p => (A.take h.f0.toNat).drop p.toNat ++ ((B.take (h.f2 + h.f3).toNat).drop h.f2.toNat ++ pat A B l (h.f0 + h.f1))
theorem cut_length {α : Type} (A : List α) {x y : Int} (hx : 0 ≤ x) (hxy : x ≤ y) (hy : y ≤ A.length) : (((A.take y.toNat).drop x.toNat).length : Int) = y - x := by
 rw [List.length_drop, List.length_take]; omega
theorem go_pat (A B : List ByteArray) (hs : A.length + B.length ≤ 1000000) : ∀ (l : List S40) (i : Nat) (p q : Int) (acc : List ByteArray), may A.length B.length l i p q = true → 0 ≤ p → p ≤ A.length → 0 ≤ q → q ≤ B.length → (acc.length : Int) ≤ p + q →
  hunk_Patch.go A B (hunk_Patch.sts A.length l p) acc = some (acc ++ pat A B l p)
 | [], i, p, q, acc, h, p0, p1, q0, q1, ha => by
  have := cut_length A (x := p) (y := A.length) p0 p1 (by omega)
  rw [hunk_Patch.sts, hunk_Patch.go]
  unfold hunk_Patch.one
  dsimp only
  have z2 : z40.f2 = 0 := rfl
  have z3 : z40.f3 = 0 := rfl
  rw [z2, z3, if_pos ⟨p0, p1, by omega, by omega, by omega, by omega, by simp only [List.length_drop, List.length_take] at this ⊢; omega⟩]
  rw [Option.bind_some, hunk_Patch.go, pat]
  simp
 | y :: l, i, p, q, acc, h, p0, p1, q0, q1, ha => by
  rw [may] at h
  by_cases c : okh A.length B.length i p q y
  case neg => rw [if_neg c] at h; cases h
  rw [if_pos c] at h
  obtain ⟨c0, c1, c2, c3, c4, c5, c6, c7, c8, c9, c10⟩ := c
  have k1 := cut_length A (x := p) (y := y.f0) p0 c0 c7
  have k2 := cut_length B (x := y.f2) (y := y.f2 + y.f3) (by omega) (by omega) (by omega)
  have ih := go_pat A B hs l (i + 1) (y.f0 + y.f1) (y.f2 + y.f3) (acc ++ ((A.take y.f0.toNat).drop p.toNat ++ (B.take (y.f2 + y.f3).toNat).drop y.f2.toNat)) h (by omega) (by omega) (by omega) (by omega) (by rw [List.length_append, List.length_append]; omega)
  rw [hunk_Patch.sts, hunk_Patch.go]
  unfold hunk_Patch.one
  dsimp only
  rw [if_pos ⟨p0, c0, c7, by omega, c5, by omega, by omega⟩, Option.bind_some, ih, pat]
  simp
theorem refpatch_loop (A B : List ByteArray) (hs : A.length + B.length ≤ 1000000) (L : List S40) (hL : L.length ≤ 1000000) : ∀ (l : List S40) (i : Nat) (p q : Int) (acc : List ByteArray), L.drop i = l → i ≤ L.length → may A.length B.length l i p q = true → 0 ≤ p → p ≤ A.length → 0 ≤ q → q ≤ B.length → (acc.length : Int) ≤ p + q →
  Ev (fun k => r06_Patch.l0 k A L B acc p (i : Int)) (acc ++ pat A B l p, 0)
 | [], i, p, q, acc, e, hi, h, p0, p1, q0, q1, ha => by
  have : L.length ≤ i := by have := congrArg List.length e; rw [List.length_drop, List.length_nil] at this; omega
  refine Ev.step (f := fun _ => some (acc ++ A.drop p.toNat, 0)) (fun k => ?_) (by rw [pat]; exact Ev.now _)
  simp only [r06_Patch.l0]
  rw [if_neg (by omega), if_pos p0, if_pos p1, if_pos (by rw [List.length_drop]; omega)]
 | y :: l, i, p, q, acc, e, hi, h, p0, p1, q0, q1, ha => by
  obtain ⟨g1, g2, g3⟩ := at40 e
  rw [may] at h
  by_cases c : okh A.length B.length i p q y
  case neg => rw [if_neg c] at h; cases h
  rw [if_pos c] at h
  obtain ⟨c0, c1, c2, c3, c4, c5, c6, c7, c8, c9, c10⟩ := c
  have k1 := cut_length A (x := p) (y := y.f0) p0 c0 c7
  have k2 := cut_length B (x := y.f2) (y := y.f2 + y.f3) (by omega) (by omega) (by omega)
  have e5 : wrap64 (y.f0 + y.f1) = y.f0 + y.f1 := w64 (by omega) (by omega)
  have e6 : wrap64 (y.f2 + y.f3) = y.f2 + y.f3 := w64 (by omega) (by omega)
  have ih := refpatch_loop A B hs L hL l (i + 1) (y.f0 + y.f1) (y.f2 + y.f3) (acc ++ (A.take y.f0.toNat).drop p.toNat ++ (B.take (y.f2 + y.f3).toNat).drop y.f2.toNat) g3 (by omega) h (by omega) (by omega) (by omega) (by omega) (by rw [List.length_append, List.length_append]; omega)
  have ea : acc ++ pat A B (y :: l) p = acc ++ (A.take y.f0.toNat).drop p.toNat ++ (B.take (y.f2 + y.f3).toNat).drop y.f2.toNat ++ pat A B l (y.f0 + y.f1) := by rw [pat]; simp
  rw [ea]
  refine Ev.step (fun k => ?_) ih
  simp only [r06_Patch.l0]
  rw [if_pos (by omega), if_pos (by omega), g2, if_pos p0, if_pos c0, if_pos c7, if_pos (by omega), Option.bind_some, if_pos (by omega), e6, if_pos (by omega), if_pos (by omega), if_pos (by rw [List.length_append]; omega), e5, wi i (by omega)]
def P6 (A : List ByteArray) (L : List S40) (B : List ByteArray) : List ByteArray × Int := if may A.length B.length L 0 0 0 = true then (pat A B L 0, 0) else ([], 60)
theorem patch_runs {A B : List ByteArray} {L : List S40} (hs : A.length + B.length ≤ 1000000) (hL : L.length ≤ 1000000) (hw : ∀ h ∈ L, WfH h) : Ev (fun k => hunk_Patch.f k A L B) (P6 A L B) := by
 refine Ev.congr (fun k => if_pos ⟨by omega, hL, by omega⟩) (Ev.bind (check_runs (by omega) (by omega) hL hw) ?_)
 unfold chk P6
 by_cases h : may A.length B.length L 0 0 0 = true
 ·rw [if_pos h, if_pos h]
  refine Ev.congr (f := fun _ => some (pat A B L 0, 0)) (fun k => ?_) (Ev.now _)
  rw [if_pos rfl, if_pos (may_fit (by omega) (by omega) h), go_pat A B hs L 0 0 0 [] h (by omega) (by omega) (by omega) (by omega) (by simp)]
  rfl
 ·rw [if_neg h, if_neg h]
  exact Ev.congr (f := fun _ => some ([], 60)) (fun k => if_neg (by decide)) (Ev.now _)
theorem refpatch_runs {A B : List ByteArray} {L : List S40} (hs : A.length + B.length ≤ 1000000) (hL : L.length ≤ 1000000) (hw : ∀ h ∈ L, WfH h) : Ev (fun k => r06_Patch.f k A L B) (P6 A L B) := by
 unfold r06_Patch.f P6
 refine Ev.bind (refmay_runs (by omega) (by omega) hL hw) ?_
 by_cases h : may A.length B.length L 0 0 0 = true
 ·rw [if_pos h]
  refine Ev.congr (fun k => if_pos h) ?_
  have := refpatch_loop A B hs L hL L 0 0 0 [] rfl (Nat.zero_le _) h (by omega) (by omega) (by omega) (by omega) (by simp)
  rw [List.nil_append] at this
  exact this
 ·rw [if_neg h]
  exact Ev.congr (f := fun _ => some ([], 60)) (fun k => if_neg h) (Ev.now _)
/-! the other way, and what they cost -/
def inv (h : S40) : S40 := ⟨h.f2, h.f3, h.f0, h.f1⟩
theorem inv_loop (L : List S40) (hL : L.length ≤ 1000000) : ∀ (l : List S40) (i : Nat) (acc : List S40), L.drop i = l → i ≤ L.length → acc.length = i → Ev (fun k => hunk_Invert.l0 k acc L (L.length : Int) (i : Int)) (acc ++ l.map inv)
 | [], i, acc, e, hi, ha => by
  have : L.length ≤ i := by have := congrArg List.length e; rw [List.length_drop, List.length_nil] at this; omega
  exact Ev.step (f := fun _ => some acc) (fun k => by simp only [hunk_Invert.l0]; rw [if_neg (by omega)]) (by simp only [List.map_nil, List.append_nil]; exact Ev.now _)
 | y :: l, i, acc, e, hi, ha => by
  obtain ⟨g1, g2, g3⟩ := at40 e
  have ih := inv_loop L hL l (i + 1) (acc ++ [inv y]) g3 (by omega) (by simp [ha])
  rw [List.map_cons, show acc ++ inv y :: l.map inv = (acc ++ [inv y]) ++ l.map inv by simp]
  exact Ev.step (fun k => by simp only [hunk_Invert.l0]; rw [if_pos (by omega), if_pos (by omega), if_pos (by omega), if_pos (by omega), g2, wi i (by omega)]; rfl) ih
theorem inv_runs (L : List S40) (hL : L.length ≤ 1000000) : Ev (fun k => hunk_Invert.f k L) (L.map inv) := inv_loop L hL L 0 [] rfl (Nat.zero_le _) rfl
theorem refinv_loop (L : List S40) (hL : L.length ≤ 1000000) : ∀ (l : List S40) (i : Nat) (acc : List S40), L.drop i = l → i ≤ L.length → acc.length = i → Ev (fun k => r06_Invert.l0 k L acc (i : Int)) (acc ++ l.map inv)
 | [], i, acc, e, hi, ha => by
  have : L.length ≤ i := by have := congrArg List.length e; rw [List.length_drop, List.length_nil] at this; omega
  exact Ev.step (f := fun _ => some acc) (fun k => by simp only [r06_Invert.l0]; rw [if_neg (by omega)]) (by simp only [List.map_nil, List.append_nil]; exact Ev.now _)
 | y :: l, i, acc, e, hi, ha => by
  obtain ⟨g1, g2, g3⟩ := at40 e
  have ih := refinv_loop L hL l (i + 1) (acc ++ [inv y]) g3 (by omega) (by simp [ha])
  rw [List.map_cons, show acc ++ inv y :: l.map inv = (acc ++ [inv y]) ++ l.map inv by simp]
  exact Ev.step (fun k => by simp only [r06_Invert.l0]; rw [if_pos (by omega), if_pos (by omega), if_pos (by omega), g2, wi i (by omega)]; rfl) ih
theorem refinv_runs (L : List S40) (hL : L.length ≤ 1000000) : Ev (fun k => r06_Invert.f k L) (L.map inv) := refinv_loop L hL L 0 [] rfl (Nat.zero_le _) rfl
def csum : List S40 → Int → Int
 | [], x => x
 | h :: l, x => csum l (wrap64 (x + wrap64 (h.f1 + h.f3)))
theorem cost_loop (L : List S40) (hL : L.length ≤ 1000000) : ∀ (l : List S40) (i : Nat) (x : Int), L.drop i = l → i ≤ L.length → Ev (fun k => hunk_Cost.l0 k x L (L.length : Int) (i : Int)) (csum l x)
 | [], i, x, e, hi => by
  have : L.length ≤ i := by have := congrArg List.length e; rw [List.length_drop, List.length_nil] at this; omega
  exact Ev.step (f := fun _ => some x) (fun k => by simp only [hunk_Cost.l0]; rw [if_neg (by omega)]) (Ev.now _)
 | y :: l, i, x, e, hi => by
  obtain ⟨g1, g2, g3⟩ := at40 e
  have ih := cost_loop L hL l (i + 1) (wrap64 (x + wrap64 (y.f1 + y.f3))) g3 (by omega)
  exact Ev.step (fun k => by simp only [hunk_Cost.l0]; rw [if_pos (by omega), if_pos (by omega), if_pos (by omega), g2, wi i (by omega)]) ih
theorem cost_runs (L : List S40) (hL : L.length ≤ 1000000) : Ev (fun k => hunk_Cost.f k L) (csum L 0) := cost_loop L hL L 0 0 rfl (Nat.zero_le _)
theorem same1_loop (x : List ByteArray) (hx : x.length ≤ 1000000) : ∀ (d i : Nat), x.length - i = d → i ≤ x.length → Ev (fun k => r01_Same.l0 k x x (i : Int)) true := by
 intro d
 induction d with
 | zero =>
  intro i hd hi
  exact Ev.step (f := fun _ => some true) (fun k => by simp only [r01_Same.l0]; rw [if_neg (by omega)]) (Ev.now _)
 | succ d ih =>
  intro i hd hi
  exact Ev.step (fun k => by simp only [r01_Same.l0]; rw [if_pos (by omega), if_pos (by omega), if_pos (by omega), if_pos trivial, wi i (by omega)]) (ih (i + 1) (by omega) (by omega))
theorem same1_runs (x : List ByteArray) (hx : x.length ≤ 1000000) : Ev (fun k => r01_Same.f k x x) true :=
 Ev.congr (fun k => if_pos rfl) (same1_loop x hx _ 0 rfl (Nat.zero_le _))
theorem short_runs (x : List ByteArray) : Ev (fun _ => l06_short.f x) (decide (x.length ≤ 100)) := by
 refine Ev.congr (f := fun _ => some (decide (x.length ≤ 100))) (fun k => ?_) (Ev.now _)
 unfold l06_short.f
 congr 1; exact decide_eq_decide.2 (by omega)
theorem pat_length (A B : List ByteArray) : ∀ (l : List S40) (i : Nat) (p q : Int), may A.length B.length l i p q = true → 0 ≤ p → p ≤ A.length → 0 ≤ q → q ≤ B.length → ((pat A B l p).length : Int) + p + q ≤ A.length + B.length
 | [], i, p, q, h, p0, p1, q0, q1 => by
  rw [pat, List.length_drop]; omega
 | y :: l, i, p, q, h, p0, p1, q0, q1 => by
  rw [may] at h
  by_cases c : okh A.length B.length i p q y
  case neg => rw [if_neg c] at h; cases h
  rw [if_pos c] at h
  obtain ⟨c0, c1, c2, c3, c4, c5, c6, c7, c8, c9, c10⟩ := c
  have k1 := cut_length A (x := p) (y := y.f0) p0 c0 c7
  have k2 := cut_length B (x := y.f2) (y := y.f2 + y.f3) (by omega) (by omega) (by omega)
  have ih := pat_length A B l (i + 1) (y.f0 + y.f1) (y.f2 + y.f3) h (by omega) (by omega) (by omega) (by omega)
  rw [pat, List.length_append, List.length_append]; omega
theorem lawcost_loop (L : List S40) (hL : L.length ≤ 1000000) : ∀ (l : List S40) (i : Nat) (x : Int), L.drop i = l → i ≤ L.length → csum l x = csum L 0 → Ev (fun k => l06_HunkPatches.l0 k L x (i : Int)) true
 | [], i, x, e, hi, hx => by
  have : L.length ≤ i := by have := congrArg List.length e; rw [List.length_drop, List.length_nil] at this; omega
  rw [csum] at hx
  refine Ev.step (f := fun k => (hunk_Cost.f k L).bind fun t => some (t == x)) (fun k => by simp only [l06_HunkPatches.l0]; rw [if_neg (by omega)]) (Ev.bind (cost_runs L hL) ?_)
  rw [← hx]
  exact Ev.congr (f := fun _ => some true) (fun k => by simp) (Ev.now _)
 | y :: l, i, x, e, hi, hx => by
  obtain ⟨g1, g2, g3⟩ := at40 e
  exact Ev.step (fun k => by simp only [l06_HunkPatches.l0]; rw [if_pos (by omega), if_pos (by omega), g2, wi i (by omega)]) (lawcost_loop L hL l (i + 1) (wrap64 (x + wrap64 (y.f1 + y.f3))) g3 (by omega) hx)
theorem wf64 {x : Int} (h : (Lit.int .i64 x).wf = true) : W64 x := by
 simp only [Lit.wf, IntKind.min, IntKind.max, IntKind.signed, IntKind.bits, Bool.and_eq_true, decide_eq_true_eq, if_true] at h
 unfold W64
 omega
theorem HunkPatches (a : List ByteArray) (l : List S40) (b : List ByteArray) (h0 : a.length * 16 ≤ 140737488351232 ∧ a.length ≤ maxLen ∧ ∀ x ∈ a, x.size ≤ 140737488351232)
  (h1 : l.length * 32 ≤ 140737488351232 ∧ l.length ≤ maxLen ∧ ∀ x ∈ l, (Lit.int .i64 x.f0).wf = true ∧ (Lit.int .i64 x.f1).wf = true ∧ (Lit.int .i64 x.f2).wf = true ∧ (Lit.int .i64 x.f3).wf = true)
  (h2 : b.length * 16 ≤ 140737488351232 ∧ b.length ≤ maxLen ∧ ∀ x ∈ b, x.size ≤ 140737488351232) : ∃ k, l06_HunkPatches.f k a l b = some true := by
 refine Ev.rounds ?_
 unfold l06_HunkPatches.f
 refine Ev.bind awake_runs (Ev.congr (fun k => if_pos rfl) (Ev.bind (short_runs a) (Ev.bind (short_runs b) ?_)))
 have yes : Ev (fun k => l06_HunkPatches.j0 k a l b true) true := Ev.step (f := fun _ => some true) (fun k => by simp only [l06_HunkPatches.j0]; rw [if_pos trivial]) (Ev.now _)
 by_cases g0 : a.length ≤ 100
 case neg => exact Ev.congr (fun k => if_neg (by simp [g0])) yes
 refine Ev.congr (fun k => if_pos (decide_eq_true g0)) ?_
 by_cases g1 : b.length ≤ 100
 case neg => exact Ev.congr (fun k => if_neg (by simp [g1])) yes
 refine Ev.congr (fun k => if_pos (decide_eq_true g1)) ?_
 by_cases g2 : (l.length : Int) > 100
 ·rw [decide_eq_true g2]; exact yes
 rw [decide_eq_false g2]
 have hw : ∀ h ∈ l, WfH h := fun h hm => by
  obtain ⟨w0, w1, w2, w3⟩ := h1.2.2 h hm
  exact ⟨wf64 w0, wf64 w1, wf64 w2, wf64 w3⟩
 have hL : l.length ≤ 1000000 := by omega
 have hs : a.length + b.length ≤ 1000000 := by omega
 have hp : (P6 a l b).1.length ≤ 1000000 := by
  unfold P6
  by_cases h : may a.length b.length l 0 0 0 = true
  ·rw [if_pos h]; have := pat_length a b l 0 0 0 h (by omega) (by omega) (by omega) (by omega); show (pat a b l 0).length ≤ 1000000; omega
  ·rw [if_neg h]; simp
 have hl : (l.map inv).length ≤ 1000000 := by simp; omega
 have fin : Ev (fun k => l06_HunkPatches.j1 k l (may a.length b.length l 0 0 0) false) true := by
  by_cases h : may a.length b.length l 0 0 0 = true
  ·exact Ev.step (fun k => by simp only [l06_HunkPatches.j1]; rw [if_neg (by decide), if_pos h]; rfl) (lawcost_loop l hL l 0 0 rfl (Nat.zero_le _) rfl)
  ·exact Ev.step (f := fun _ => some true) (fun k => by simp only [l06_HunkPatches.j1]; rw [if_neg (by decide), if_neg h]) (Ev.now _)
 have ne : ¬ ((chk a.length b.length l 0 0 0 == 0) != may a.length b.length l 0 0 0) = true := by
  unfold chk
  cases may a.length b.length l 0 0 0 <;> decide
 refine Ev.step (f := fun k => (hunk_Patch.f k a l b).bind fun p => (r06_Patch.f k a l b).bind fun q => (r06_May.f k l (a.length : Int) (b.length : Int)).bind fun t => (hunk_Check.f k l (a.length : Int) (b.length : Int)).bind fun u => if ((u == 0) != t) = true then (l06_HunkPatches.j1 k l t true) else if p.2 = q.2 then ((r01_Same.f k p.1 q.1).bind fun v => if v = true then ((hunk_Invert.f k l).bind fun x => (r06_Invert.f k l).bind fun y => (r06_Same.f k x y).bind fun z => l06_HunkPatches.j1 k l t (!z)) else (l06_HunkPatches.j1 k l t true)) else (l06_HunkPatches.j1 k l t true)) (fun k => ?_) ?_
 ·simp only [l06_HunkPatches.j0]
  rw [if_neg (by decide)]
 exact Ev.bind (patch_runs hs hL hw) (Ev.bind (refpatch_runs hs hL hw) (Ev.bind (refmay_runs (by omega) (by omega) hL hw) (Ev.bind (check_runs (by omega) (by omega) hL hw) (Ev.congr (fun k => if_neg ne) (Ev.congr (fun k => if_pos rfl) (Ev.bind (same1_runs _ hp) (Ev.congr (fun k => if_pos rfl) (Ev.bind (inv_runs l hL) (Ev.bind (refinv_runs l hL) (Ev.bind (same6_runs _ hl) fin))))))))))
end Go.Proofs.Ytphghffdaceaoaa.Pure
