/- What the functions that the law ReportTexts reaches compute, and the law (part 3). -/
import Derived.Test.YtbhomjhhinfojaaDoorAlReportTexts2
namespace Go.Proofs.AL
open Go Go.RowKit Go.Proofs.Tryd
set_option maxRecDepth 100000
set_option linter.unusedSimpArgs false
set_option linter.unusedVariables false
def joinS (l : List ByteArray) (sep : ByteArray) : ByteArray := ⟨(Lib.join (l.map (·.data.toList)) sep.data.toList).toArray⟩
theorem V.sl_cells {G : Gh} {w : World} {t : Nat} {xs : List (List AV)} {v : Value} (h : V G w (.sl t xs) v) (hne : xs ≠ []) : ∃ (b o c sz : Nat) (f : Nat → Nat → Value), v = .slice (some ⟨b, o, none⟩) xs.length c ∧ xs.length ≤ c ∧ (∀ el ∈ xs, el.length = sz) ∧
    ∀ (j i : Nat) (el : List AV) (x : AV), xs[j]? = some el → el[i]? = some x → w.cell? ⟨b, o + (j * sz + i), none⟩ = some (f j i) ∧ V G w x (f j i) := by
  cases h with
  | sl0 _ => exact absurd rfl hne
  | @sl _ _ b o n c sz f hn0 hnn hnc hcm hs0 hel htk hcell hVc =>
    subst hnn
    exact ⟨b, o, c, sz, f, rfl, hnc, hel, fun j i el x h1 h2 => ⟨(hcell j i el x h1 h2).2.1, hVc j i el x h1 h2⟩⟩
theorem join_ok (l : List ByteArray) (sep : ByteArray) (hne : l ≠ []) (hl : (joinS l sep).size ≤ 140737488355328) (hn : l.length ≤ 1000) : ACall cx 32 [.sl 0 (strs l), .str sep] (.str (joinS l sep)) none := by
  refine ⟨⟨_, _, T.func_32, by kernel_rfl, rfl⟩, fun m w vs hgi hz hlen hV => ?_⟩
  rcases vs with ⟨_ | ⟨v, _ | ⟨u, _ | _⟩⟩⟩ <;> simp at hlen
  have h0 := hV 0 _ _ rfl rfl
  have h1 := (hV 1 _ _ rfl rfl).str_inv
  subst h1
  obtain ⟨b, o, c, sz, f, rfl, hnc, hel, hc⟩ := h0.sl_cells (by rw [ne_eq, strs_eq_nil]; exact hne)
  have hsz : sz = 1 := by
    obtain ⟨x, l', rfl⟩ := List.exists_cons_of_ne_nil hne
    exact (hel [.str x] (by simp [strs])).symm
  subst hsz
  rw [strs_length] at hnc ⊢
  have hcell : ∀ (j : Nat) (x : ByteArray), l[j]? = some x → w.cell? ⟨b, o + j, none⟩ = some (.string x) := by
    intro j x hj
    obtain ⟨q1, q2⟩ := hc j 0 [.str x] (.str x) (by rw [strs, List.getElem?_map, hj]; rfl) rfl
    rw [q2.str_inv] at q1
    simpa using q1
  have hlt : b < w.heap.size := by
    obtain ⟨x, l', rfl⟩ := List.exists_cons_of_ne_nil hne
    have h0 := hcell 0 x rfl
    rcases Nat.lt_or_ge b w.heap.size with h1 | h1
    · exact h1
    · simp [World.cell?, Array.getElem?_eq_none h1] at h0
  have hl' : (Lib.join (l.map (·.data.toList)) sep.data.toList).length ≤ 140737488355328 := by
    have e : (joinS l sep).size = (Lib.join (l.map (·.data.toList)) sep.data.toList).length := by simp [joinS, ByteArray.size]
    omega
  refine (Tryd.strings_Join b o c l sep w hcell hlt (by omega) hnc hl').mono (fun e w' ⟨h1, h2⟩ => ⟨_, m, h1, h2, fun _ _ => rfl, fun b hb => hz b (Nat.le_trans h2.size hb), .str _, fun i e he => by cases he⟩)
theorem join1 (a sep : ByteArray) : joinS [a] sep = a := by
  apply ba_toList_inj
  simp [joinS, Lib.join_one]
theorem join2 (a b sep : ByteArray) : joinS [a, b] sep = a ++ sep ++ b := by
  apply ba_toList_inj
  simp [joinS, Lib.join, List.intercalate, ByteArray.data_append]
/-! ### lines -/
def nlS : ByteArray := ⟨#[10]⟩
variable {N : Nat} {m : List (Nat × AV)} {ob : Obs} {lv : Lvs} {nx : Nat} {lp : Lps}
set_option maxHeartbeats 4000000 in
/-- A line is written. -/
theorem lines_j {id : Nat} {u : Bool} {b : ByteArray} {k : Nat} (l : List ByteArray) (hne : l ≠ []) (hl : l.length ≤ 2) (hj : (joinS l ⟨#[58, 32]⟩).size ≤ 100000000) (hob : ob[id]? = some [.tp id 53 2 u, .sl k (strRows b)]) (hk : k ≠ 0) (hk2 : k ≠ 2) (hkn : k < nx) (hlv : k = 1 ∨ look lv k = some (.ty 5)) (hl0 : look lv 0 = none) (hsz : b.size ≤ 1000000000) (hnx : 3 ≤ nx) :
    JCall cx 25 [.ptr id 0, .sl 2 [[.sl 0 (strs l)]]] (S N m ob lv nx lp) (fun r s2 => r = .tup [] ∧ ∃ g, s2.ob = ob.set id [.tp id 53 2 true, .sl nx (strRows (b ++ (joinS l ⟨#[58, 32]⟩ ++ nlS)))] ++ g ∧ s2.live = look ((nx, .ty 5) :: rmv k lv) ∧ s2.next = nx + 1 ∧ s2.lp = lp) := by
  refine JCall.wpc (C := cx) T.func_25 (by kernel_rfl) rfl (by rfl) (fun hL => ?_)
  clear hL
  simp [f25]
  refine loopK [0, 1, 6, 7] (fun (i : Nat) n => i ≤ 1 ∧ n = nx + i) (fun i => [(8, .int .i64 (i : Nat))]) (fun i => if i = 0 then ob else ob.set id [.tp id 53 2 true, .sl nx (strRows (b ++ (joinS l ⟨#[58, 32]⟩ ++ nlS)))]) (fun i => if i = 0 then lv else (nx, .ty 5) :: rmv k lv) (fun i => 1 - i) 0 ⟨by omega, rfl⟩ (by simp) [] (by simp) (by simp) ?_
  rintro i n g ⟨hi, rfl⟩ - -
  have : i = 0 ∨ i = 1 := by omega
  rcases this with rfl | rfl
  · simp
    refine callP_i (join_ok l ⟨#[58, 32]⟩ hne (by omega) (by omega)) ?_
    simp
    have hid : id < ob.length := (List.getElem?_eq_some_iff.1 hob).1
    have z10 : (ByteArray.mk #[10]).size = 1 := rfl
    refine ⟨by rw [z10]; omega, ?_⟩
    refine jcallP_i (bwrite_j (id := id) (u := u) (b := b) (k := k) (joinS l ⟨#[58, 32]⟩ ++ ⟨#[10]⟩) (by rw [List.getElem?_append_left hid]; exact hob) hk hk2 hkn hlv hl0 (by rw [ByteArray.size_append, z10]; omega)) ?_
    rintro _ s2 ⟨rfl, e1, e2, e3, e4⟩
    rw [S_ret e1 e2 e3 e4]
    simp
    exact againK_i 1 g ⟨by omega, rfl⟩ (by omega) (by simp; decide) (by simp [List.set_append_left _ _ hid]; rfl) (by simp)
  · simp
    rfl
end Go.Proofs.AL
namespace Go.Proofs.AL
open Go Go.RowKit Go.Proofs.Tryd
set_option maxRecDepth 100000
set_option linter.unusedSimpArgs false
set_option linter.unusedVariables false
abbrev Rq := Int × ByteArray × ByteArray
abbrev Cf := Int × ByteArray
def rqV (r : Rq) : List AV := [.int .i64 r.1, .str r.2.1, .str r.2.2]
def cfV (c : Cf) : List AV := [.int .i64 c.1, .str c.2]
def rqs (l : List Rq) : List (List AV) := l.map rqV
def cfs (l : List Cf) : List (List AV) := l.map cfV
@[simp] theorem rqs_length (l : List Rq) : (rqs l).length = l.length := by simp [rqs]
@[simp] theorem cfs_length (l : List Cf) : (cfs l).length = l.length := by simp [cfs]
@[simp] theorem rqs_all (l : List Rq) : (∀ el ∈ rqs l, el.length = 3) = True := by
  simp only [rqs, List.mem_map, eq_iff_iff, iff_true]
  rintro _ ⟨v, _, rfl⟩
  rfl
@[simp] theorem cfs_all (l : List Cf) : (∀ el ∈ cfs l, el.length = 2) = True := by
  simp only [cfs, List.mem_map, eq_iff_iff, iff_true]
  rintro _ ⟨v, _, rfl⟩
  rfl
theorem rqs_get {l : List Rq} {i : Nat} (h : i < (rqs l).length) : (rqs l)[i] = rqV (l[i]'(by simpa using h)) := by simp [rqs]
theorem cfs_get {l : List Cf} {i : Nat} (h : i < (cfs l).length) : (cfs l)[i] = cfV (l[i]'(by simpa using h)) := by simp [cfs]
attribute [simp] rqs_get cfs_get
theorem rqs_pu : ∀ l : List Rq, puLL (rqs l) = true
  | [] => rfl
  | x :: l => by
    have : rqs (x :: l) = rqV x :: rqs l := rfl
    rw [this]; simp [puLL, puL, pu, rqV, rqs_pu l]
theorem cfs_pu : ∀ l : List Cf, puLL (cfs l) = true
  | [] => rfl
  | x :: l => by
    have : cfs (x :: l) = cfV x :: cfs l := rfl
    rw [this]; simp [puLL, puL, pu, cfV, cfs_pu l]
attribute [simp] rqs_pu cfs_pu
def colon : ByteArray := ⟨#[58, 32]⟩
def leftW : ByteArray := ⟨#[108, 101, 102, 116]⟩
def rightW : ByteArray := ⟨#[114, 105, 103, 104, 116]⟩
def confW : ByteArray := ⟨#[99, 111, 110, 102, 108, 105, 99, 116]⟩
def rqL (w : ByteArray) (r : Rq) : ByteArray := w ++ colon ++ showS r.1 r.2.1 r.2.2 ++ nlS
def cfL (c : Cf) : ByteArray := confW ++ colon ++ confS c.1 c.2 ++ nlS
def cat (l : List ByteArray) : ByteArray := l.foldl (· ++ ·) .empty
theorem foldl_app (l : List ByteArray) : ∀ b : ByteArray, l.foldl (· ++ ·) b = b ++ cat l := by
  induction l with
  | nil => intro b; simp [cat]
  | cons x l ih => intro b; unfold cat; rw [List.foldl_cons, List.foldl_cons, ih, ih (.empty ++ x)]; simp [ByteArray.append_assoc]
theorem cat_snoc (l : List ByteArray) (x : ByteArray) : cat (l ++ [x]) = cat l ++ x := by unfold cat; rw [List.foldl_append]; rfl
theorem cat_cons (l : List ByteArray) (x : ByteArray) : cat (x :: l) = x ++ cat l := by
  show ([x] ++ l).foldl _ _ = _
  rw [List.foldl_append, foldl_app]
  simp
def headS (k : Int) : ByteArray := wordS outsL k ++ nlS
/-- All that is told. -/
def textS (k : Int) (a b : List Rq) (c : List Cf) : ByteArray := headS k ++ cat (a.map (rqL leftW)) ++ cat (b.map (rqL rightW)) ++ cat (c.map cfL)
def rqZ (l : List Rq) : Prop := l.length ≤ 30 ∧ ∀ r ∈ l, r.2.1.size ≤ 2000000 ∧ r.2.2.size ≤ 2000000
def cfZ (l : List Cf) : Prop := l.length ≤ 30 ∧ ∀ c ∈ l, c.2.size ≤ 2000000
theorem showS_size (k : Int) (a b : ByteArray) : (showS k a b).size ≤ a.size + b.size + 40 := by
  unfold showS
  split
  · rename_i h
    have : (wordsL.getD k.toNat .empty).size ≤ 20 := by
      rcases h with rfl | rfl | rfl <;> decide
    have z2 : (ByteArray.mk #[32]).size = 1 := rfl
    have z3 : (ByteArray.mk #[32, 116, 111, 32]).size = 4 := rfl
    simp only [ByteArray.size_append, z2, z3]
    omega
  · simp
theorem confS_size (k : Int) (b : ByteArray) : (confS k b).size ≤ b.size + 40 := by
  have := wkinds_size k
  unfold confS
  split
  · omega
  · simp only [ByteArray.size_append, sz32]; omega
theorem rqL_size (w : ByteArray) (hw : w.size ≤ 20) (r : Rq) (h1 : r.2.1.size ≤ 2000000) (h2 : r.2.2.size ≤ 2000000) : (rqL w r).size ≤ 4000100 := by
  have := showS_size r.1 r.2.1 r.2.2
  have z1 : colon.size = 2 := rfl
  have z2 : nlS.size = 1 := rfl
  simp only [rqL, ByteArray.size_append, z1, z2]; omega
theorem cfL_size (c : Cf) (h1 : c.2.size ≤ 2000000) : (cfL c).size ≤ 4000100 := by
  have := confS_size c.1 c.2
  have z0 : confW.size = 8 := rfl
  have z1 : colon.size = 2 := rfl
  have z2 : nlS.size = 1 := rfl
  simp only [cfL, ByteArray.size_append, z0, z1, z2]; omega
theorem cat_size (l : List ByteArray) (c : Nat) (h : ∀ x ∈ l, x.size ≤ c) : (cat l).size ≤ c * l.length := by
  induction l with
  | nil => simp [cat]
  | cons x l ih =>
    rw [cat_cons, ByteArray.size_append, List.length_cons, Nat.mul_succ]
    have := h x List.mem_cons_self
    have := ih (fun y hy => h y (List.mem_cons_of_mem _ hy))
    omega
theorem take_map_succ {α : Type} (f : α → ByteArray) {l : List α} {i : Nat} (h : i < l.length) : cat ((l.map f).take (i + 1)) = cat ((l.map f).take i) ++ f l[i] := by
  rw [← List.map_take, ← List.map_take, List.take_succ_eq_append_getElem h, List.map_append, List.map_cons, List.map_nil, cat_snoc]
theorem part_size (w : ByteArray) (hw : w.size ≤ 20) (l : List Rq) (hz : rqZ l) (i : Nat) : (cat ((l.map (rqL w)).take i)).size ≤ 130000000 := by
  rw [← List.map_take]
  have := cat_size ((l.take i).map (rqL w)) 4000100 (fun x hx => by
    obtain ⟨r, hr, rfl⟩ := List.mem_map.1 hx
    obtain ⟨h1, h2⟩ := hz.2 r (List.mem_of_mem_take hr)
    exact rqL_size w hw r h1 h2)
  have h0 : ((l.take i).map (rqL w)).length ≤ 30 := by have := hz.1; simp; omega
  omega
theorem partc_size (l : List Cf) (hz : cfZ l) (i : Nat) : (cat ((l.map cfL).take i)).size ≤ 130000000 := by
  rw [← List.map_take]
  have := cat_size ((l.take i).map cfL) 4000100 (fun x hx => by
    obtain ⟨r, hr, rfl⟩ := List.mem_map.1 hx
    exact cfL_size r (hz.2 r (List.mem_of_mem_take hr)))
  have h0 : ((l.take i).map cfL).length ≤ 30 := by have := hz.1; simp; omega
  omega
theorem take_all {α : Type} (f : α → ByteArray) (l : List α) : (l.map f).take l.length = l.map f := List.take_of_length_le (by simp)
/-- What the Builder's variable holds, in a loop over some lines. -/
structure Tx where
  i : Nat
  k : Nat
def TxOk (n : Nat) (p : Tx) (nx : Nat) : Prop := p.i ≤ n ∧ 3 ≤ p.k ∧ p.k < nx
end Go.Proofs.AL
namespace Go.Proofs.AL
open Go Go.RowKit Go.Proofs.Tryd
set_option maxRecDepth 100000
set_option linter.unusedSimpArgs false
set_option linter.unusedVariables false
set_option maxHeartbeats 8000000 in
theorem text_ok (k : Int) (a b : List Rq) (c : List Cf) (ha : rqZ a) (hb : rqZ b) (hc : cfZ c) : ACall cx 14 [.int .i64 k, .sl 0 (rqs a), .sl 0 (rqs b), .sl 0 (cfs c)] (.str (textS k a b c)) none := by
  refine ACall.wpc (C := cx) T.func_14 (by kernel_rfl) rfl (by rfl) ?_
  have zl := leftW.size
  have hal := ha.1
  have hbl := hb.1
  have hcl := hc.1
  have hw := wouts_size k
  have hh : (headS k).size ≤ 100 := by unfold headS; rw [ByteArray.size_append]; show _ + 1 ≤ 100; omega
  simp [f14]
  refine callP_i (outcome_ok k) ?_
  simp
  rw [show [[AV.str (wordS outsL k)]] = strs [wordS outsL k] from rfl]
  refine jcallP_i (lines_j (id := 0) (u := false) (b := .empty) (k := 1) [wordS outsL k] (by simp) (by simp) (by rw [join1]; omega) rfl (by decide) (by decide) (by decide) (.inl rfl) rfl (by simp) (Nat.le_refl 3)) ?_
  rintro _ s2 ⟨rfl, g, e1, e2, e3, e4⟩
  rw [S_ret e1 e2 e3 e4, join1]
  simp
  rw [show wordS outsL k ++ nlS = headS k from rfl]
  refine loopK [2, 3, 9, 21, 22] (TxOk a.length) (fun p => [(23, .int .i64 (p.i : Nat))]) (fun p => [[.tp 0 53 2 true, .sl p.k (strRows (headS k ++ cat ((a.map (rqL leftW)).take p.i)))]]) (fun p => [(p.k, .ty 5)]) (fun p => a.length - p.i) ⟨0, 3⟩ ⟨by simp, by decide, by decide⟩ (by simp) g (by simp [cat]) (by simp) ?_
  rintro ⟨i, kk⟩ nx gg ⟨hi, hk3, hkn⟩ hnx -
  dsimp only at hi hk3 hkn
  simp
  by_cases h4 : i < a.length
  · have w : IntKind.i64.wrap ((i : Int) + 1) = ((i + 1 : Nat) : Int) := by rw [wrap64_in (by omega) (by omega)]; omega
    have hp := part_size leftW (by decide) a ha i
    have hts := take_map_succ (rqL leftW) h4
    have hz := ha.2 a[i] (List.getElem_mem h4)
    obtain ⟨⟨x, y, z⟩, hx⟩ : ∃ x, x = a[i] := ⟨_, rfl⟩
    rw [← hx] at hts hz
    have hss := showS_size x y z
    have zl : leftW.size = 4 := rfl
    have zc : colon.size = 2 := rfl
    simp [h4, rqV, ← hx]
    refine callP_i (show_ok x y z hz.1 hz.2) ?_
    simp
    rw [show [[AV.str ⟨#[108, 101, 102, 116]⟩], [AV.str (showS x y z)]] = strs [leftW, showS x y z] from rfl]
    refine ⟨rfl, ?_⟩
    refine jcallP_i (lines_j (id := 0) (u := true) (b := headS k ++ cat ((a.map (rqL leftW)).take i)) (k := kk) [leftW, showS x y z] (by simp) (by simp) (by rw [join2, ByteArray.size_append, ByteArray.size_append, zl]; have : (ByteArray.mk #[58, 32]).size = 2 := rfl; have := hz.1; have := hz.2; dsimp only at *; omega) rfl (by omega) (by omega) hkn (.inr (by simp)) (by simp; omega) (by rw [ByteArray.size_append]; omega) (by omega)) ?_
    rintro _ s2 ⟨rfl, g2, e1, e2, e3, e4⟩
    rw [S_ret e1 e2 e3 e4, join2]
    have he : headS k ++ cat ((a.map (rqL leftW)).take i) ++ (leftW ++ ⟨#[58, 32]⟩ ++ showS x y z ++ nlS) = headS k ++ cat ((a.map (rqL leftW)).take (i + 1)) := by
      rw [hts]
      exact ByteArray.append_assoc
    rw [he]
    simp
    exact againK_i ⟨i + 1, nx⟩ _ ⟨h4, by dsimp only; omega, by dsimp only; omega⟩ (by dsimp only; omega) (by simp [w]) rfl (by simp)
  have : i = a.length := by omega
  subst this
  rw [take_all]
  simp
  have hfa := part_size leftW (by decide) a ha a.length
  rw [take_all] at hfa
  refine loopK [3, 9, 33, 34] (TxOk b.length) (fun p => [(35, .int .i64 (p.i : Nat))]) (fun p => [[.tp 0 53 2 true, .sl p.k (strRows (headS k ++ cat (a.map (rqL leftW)) ++ cat ((b.map (rqL rightW)).take p.i)))]]) (fun p => [(p.k, .ty 5)]) (fun p => b.length - p.i) ⟨0, kk⟩ ⟨by simp, hk3, hkn⟩ (by simp) gg (by simp [cat]) (by simp) ?_
  rintro ⟨i, kj⟩ nx2 gh ⟨hi, hk3, hkn⟩ hnx2 -
  dsimp only at hi hk3 hkn
  simp
  by_cases h4 : i < b.length
  · have w : IntKind.i64.wrap ((i : Int) + 1) = ((i + 1 : Nat) : Int) := by rw [wrap64_in (by omega) (by omega)]; omega
    have hp := part_size rightW (by decide) b hb i
    have hts := take_map_succ (rqL rightW) h4
    have hz := hb.2 b[i] (List.getElem_mem h4)
    obtain ⟨⟨x, y, z⟩, hx⟩ : ∃ x, x = b[i] := ⟨_, rfl⟩
    rw [← hx] at hts hz
    have hss := showS_size x y z
    have zl : rightW.size = 5 := rfl
    have zc : colon.size = 2 := rfl
    simp [h4, rqV, ← hx]
    refine callP_i (show_ok x y z hz.1 hz.2) ?_
    simp
    rw [show [[AV.str ⟨#[114, 105, 103, 104, 116]⟩], [AV.str (showS x y z)]] = strs [rightW, showS x y z] from rfl]
    refine ⟨rfl, ?_⟩
    refine jcallP_i (lines_j (id := 0) (u := true) (b := headS k ++ cat (a.map (rqL leftW)) ++ cat ((b.map (rqL rightW)).take i)) (k := kj) [rightW, showS x y z] (by simp) (by simp) (by rw [join2, ByteArray.size_append, ByteArray.size_append, zl]; have : (ByteArray.mk #[58, 32]).size = 2 := rfl; have := hz.1; have := hz.2; dsimp only at *; omega) rfl (by omega) (by omega) hkn (.inr (by simp)) (by simp; omega) (by rw [ByteArray.size_append, ByteArray.size_append]; have := hfa; omega) (by omega)) ?_
    rintro _ s2 ⟨rfl, g2, e1, e2, e3, e4⟩
    rw [S_ret e1 e2 e3 e4, join2]
    have he : headS k ++ cat (a.map (rqL leftW)) ++ cat ((b.map (rqL rightW)).take i) ++ (rightW ++ ⟨#[58, 32]⟩ ++ showS x y z ++ nlS) = headS k ++ cat (a.map (rqL leftW)) ++ cat ((b.map (rqL rightW)).take (i + 1)) := by
      rw [hts]
      exact ByteArray.append_assoc
    rw [he]
    simp
    exact againK_i ⟨i + 1, nx2⟩ _ ⟨h4, by dsimp only; omega, by dsimp only; omega⟩ (by dsimp only; omega) (by simp [w]) rfl (by simp)
  have : i = b.length := by omega
  subst this
  rw [take_all]
  simp
  have hfb := part_size rightW (by decide) b hb b.length
  rw [take_all] at hfb
  refine loopK [9, 45, 46] (TxOk c.length) (fun p => [(47, .int .i64 (p.i : Nat))]) (fun p => [[.tp 0 53 2 true, .sl p.k (strRows (headS k ++ cat (a.map (rqL leftW)) ++ cat (b.map (rqL rightW)) ++ cat ((c.map cfL).take p.i)))]]) (fun p => [(p.k, .ty 5)]) (fun p => c.length - p.i) ⟨0, kj⟩ ⟨by simp, hk3, hkn⟩ (by simp) gh (by simp [cat]) (by simp) ?_
  rintro ⟨i, kl⟩ nx3 gi ⟨hi, hk3, hkn⟩ hnx3 -
  dsimp only at hi hk3 hkn
  simp
  by_cases h4 : i < c.length
  · have w : IntKind.i64.wrap ((i : Int) + 1) = ((i + 1 : Nat) : Int) := by rw [wrap64_in (by omega) (by omega)]; omega
    have hp := partc_size c hc i
    have hts := take_map_succ cfL h4
    have hz := hc.2 c[i] (List.getElem_mem h4)
    obtain ⟨⟨x, y⟩, hx⟩ : ∃ x, x = c[i] := ⟨_, rfl⟩
    rw [← hx] at hts hz
    have hss := confS_size x y
    have zl : confW.size = 8 := rfl
    have zc : colon.size = 2 := rfl
    simp [h4, cfV, ← hx]
    refine callP_i (conflict_ok x y hz) ?_
    simp
    rw [show [[AV.str ⟨#[99, 111, 110, 102, 108, 105, 99, 116]⟩], [AV.str (confS x y)]] = strs [confW, confS x y] from rfl]
    refine ⟨rfl, ?_⟩
    refine jcallP_i (lines_j (id := 0) (u := true) (b := headS k ++ cat (a.map (rqL leftW)) ++ cat (b.map (rqL rightW)) ++ cat ((c.map cfL).take i)) (k := kl) [confW, confS x y] (by simp) (by simp) (by rw [join2, ByteArray.size_append, ByteArray.size_append, zl]; have : (ByteArray.mk #[58, 32]).size = 2 := rfl; have := hz; dsimp only at *; omega) rfl (by omega) (by omega) hkn (.inr (by simp)) (by simp; omega) (by rw [ByteArray.size_append, ByteArray.size_append, ByteArray.size_append]; have := hfa; have := hfb; omega) (by omega)) ?_
    rintro _ s2 ⟨rfl, g2, e1, e2, e3, e4⟩
    rw [S_ret e1 e2 e3 e4, join2]
    have he : headS k ++ cat (a.map (rqL leftW)) ++ cat (b.map (rqL rightW)) ++ cat ((c.map cfL).take i) ++ (confW ++ ⟨#[58, 32]⟩ ++ confS x y ++ nlS) = headS k ++ cat (a.map (rqL leftW)) ++ cat (b.map (rqL rightW)) ++ cat ((c.map cfL).take (i + 1)) := by
      rw [hts]
      exact ByteArray.append_assoc
    rw [he]
    simp
    exact againK_i ⟨i + 1, nx3⟩ _ ⟨h4, by dsimp only; omega, by dsimp only; omega⟩ (by dsimp only; omega) (by simp [w]) rfl (by simp)
  have : i = c.length := by omega
  subst this
  rw [take_all]
  simp
  refine jcallP_i (bstring_j (id := 0) (u := true) (b := headS k ++ cat (a.map (rqL leftW)) ++ cat (b.map (rqL rightW)) ++ cat (c.map cfL)) (k := kl) rfl (by omega) (by omega) (.inr (by simp))) ?_
  rintro _ s2 ⟨rfl, e1, e2, e3, e4⟩
  rw [S_ret e1 e2 e3 e4]
  simp
  rfl
end Go.Proofs.AL
