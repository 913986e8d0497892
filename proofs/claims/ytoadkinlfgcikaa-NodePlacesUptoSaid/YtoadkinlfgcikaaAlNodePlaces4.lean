/- What the functions that the law NodePlaces reaches compute, and the law (part 4). -/
import Derived.Test.YtoadkinlfgcikaaAlNodePlaces3
namespace Go.Proofs.AL
open Go Go.RowKit Go.Proofs.Try
set_option maxRecDepth 100000
set_option linter.unusedSimpArgs false
/-! ### plain facts -/
theorem Nd.put_some : ∀ (w : List Int) (x y : Nd), (x.put w y).isSome = (x.get w).isSome
  | [], x, y => by simp [Nd.put, Nd.get]
  | k :: w, x, y => by
    rw [Nd.put, Nd.get]
    split
    · simp [Nd.put_some w]
    · rfl
theorem Nd.countL_set : ∀ (l : List Nd) (j : Nat) (z : Nd) (h : j < l.length), Nd.countL (l.set j z) + l[j].count = Nd.countL l + z.count
  | x :: l, 0, z, h => by simp [Nd.countL]; omega
  | x :: l, j + 1, z, h => by
    have := Nd.countL_set l j z (by simpa using h)
    simp [Nd.countL]; omega
theorem Nd.put_facts : ∀ (w : List Int) (x y p was : Nd), x.get w = some was → x.put w y = some p → p.get w = some y ∧ p.put w was = some x ∧ p.count + was.count = x.count + y.count
  | [], x, y, p, was, h1, h2 => by
    simp only [Nd.get, Nd.put, Option.some.injEq] at h1 h2
    subst h1; subst h2
    exact ⟨rfl, rfl, by omega⟩
  | k :: w, x, y, p, was, h1, h2 => by
    rw [Nd.get] at h1
    rw [Nd.put] at h2
    split at h1
    case isFalse => cases h1
    rename_i hk
    rw [if_pos hk] at h2
    obtain ⟨j, rfl⟩ : ∃ j : Nat, k = j := ⟨k.toNat, by omega⟩
    have hj : j < x.kids.length := by omega
    obtain ⟨z, hz, rfl⟩ := Option.map_eq_some_iff.1 h2
    simp only [Int.toNat_natCast] at h1 hz ⊢
    have e : x.kids.getD j default = x.kids[j] := by simp [hj]
    rw [e] at h1 hz
    obtain ⟨g1, g2, g3⟩ := Nd.put_facts w x.kids[j] y z was h1 hz
    have hk2 : 0 ≤ (j : Int) ∧ (j : Int) < (x.setKids (x.kids.set j z)).kids.length := ⟨by omega, by simp [Nd.setKids]; omega⟩
    have e2 : (x.setKids (x.kids.set j z)).kids.getD j default = z := by simp [Nd.setKids, hj]
    refine ⟨?_, ?_, ?_⟩
    · rw [Nd.get, if_pos hk2, Int.toNat_natCast, e2]; exact g1
    · rw [Nd.put, if_pos hk2, Int.toNat_natCast, e2, g2]
      simp [Nd.setKids]
    · rw [Nd.count_eq x, Nd.count_eq (x.setKids _)]
      have := Nd.countL_set x.kids j z hj
      simp [Nd.setKids]
      omega
/-- A change that leaves the kids be. -/
def Keeps (F : Nd → Nd) : Prop := ∀ x : Nd, (F x).kids = x.kids
theorem Nd.each_kids {F : Nd → Nd} (hF : Keeps F) (x : Nd) : (x.each F).kids = x.kids.map (Nd.each F) := by rw [Nd.each_eq, hF]; rfl
theorem Nd.each_count {F : Nd → Nd} (hF : Keeps F) (x : Nd) : (x.each F).count = x.count := by
  induction x using Nd.ind with | _ x ih
  rw [Nd.count_eq, Nd.count_eq x, Nd.each_kids hF]
  congr 1
  have : ∀ l : List Nd, (∀ z ∈ l, (z.each F).count = z.count) → Nd.countL (l.map (Nd.each F)) = Nd.countL l := by
    intro l
    induction l with
    | nil => intro _; rfl
    | cons a l ih2 => intro h; simp only [List.map_cons, Nd.countL]; rw [h a (by simp), ih2 (fun z hz => h z (by simp [hz]))]
  exact this _ ih
theorem Nd.each_depth {F : Nd → Nd} (hF : Keeps F) (x : Nd) : (x.each F).depth = x.depth := by
  induction x using Nd.ind with | _ x ih
  rw [Nd.depth_eq, Nd.depth_eq x, Nd.each_kids hF]
  congr 1
  have : ∀ l : List Nd, (∀ z ∈ l, (z.each F).depth = z.depth) → Nd.depthL (l.map (Nd.each F)) = Nd.depthL l := by
    intro l
    induction l with
    | nil => intro _; rfl
    | cons a l ih2 => intro h; simp only [List.map_cons, Nd.depthL]; rw [h a (by simp), ih2 (fun z hz => h z (by simp [hz]))]
  exact this _ ih
theorem keeps_rename (n : Int) (a b : ByteArray) : Keeps (rename1 n a b) := fun _ => rfl
theorem keeps_shift (n : Int) : Keeps (shift1 n) := fun _ => rfl
theorem keeps_plain : Keeps plain1 := fun _ => rfl
theorem Nd.mem_allL {k : Int} {z : Nd} : ∀ {l : List Nd} {y : Nd}, y ∈ l → z ∈ y.all k → z ∈ Nd.allL k l
  | x :: l, y, hy, hz => by
    rw [Nd.allL]
    rcases List.mem_cons.1 hy with rfl | hy
    · exact List.mem_append.2 (.inl hz)
    · exact List.mem_append.2 (.inr (Nd.mem_allL hy hz))
theorem Nd.self_all (x : Nd) : x ∈ x.all 0 := by rw [Nd.all0_eq]; simp
theorem Nd.kid_all {x y z : Nd} (hy : y ∈ x.kids) (hz : z ∈ y.all 0) : z ∈ x.all 0 := by
  rw [Nd.all0_eq]; exact List.mem_cons_of_mem _ (Nd.mem_allL hy hz)
def RenC (n : Int) (x : Nd) : Prop := n = 0 ∨ x.kind = n ∨ (n = 1 ∧ x.kind = 21)
theorem ren_text1 {n : Int} {a b : ByteArray} {x : Nd} (h : x.text = a ∧ RenC n x) : (rename1 n a b x).text = b := if_pos h
theorem ren_text2 {n : Int} {a b : ByteArray} {x : Nd} (h : ¬ (x.text = a ∧ RenC n x)) : (rename1 n a b x).text = x.text := if_neg h
theorem ren_type1 {n : Int} {a b : ByteArray} {x : Nd} (h : n = 1 ∧ x.type = a) : (rename1 n a b x).type = b := if_pos h
theorem ren_type2 {n : Int} {a b : ByteArray} {x : Nd} (h : ¬ (n = 1 ∧ x.type = a)) : (rename1 n a b x).type = x.type := if_neg h
theorem rename_back1 (n : Int) (a b : ByteArray) (x : Nd) (h1 : x.text ≠ b) (h2 : x.type ≠ b) : rename1 n b a (rename1 n a b x) = x := by
  rw [Nd.ext_iff]
  refine ⟨rfl, rfl, rfl, rfl, rfl, ?_, ?_, rfl, rfl⟩
  · by_cases c : x.text = a ∧ RenC n x
    · rw [ren_text1 ⟨ren_text1 c, c.2⟩, c.1]
    · rw [ren_text2 (fun h => h1 (by rw [← ren_text2 (b := b) c]; exact h.1)), ren_text2 c]
  · by_cases c : n = 1 ∧ x.type = a
    · rw [ren_type1 ⟨c.1, ren_type1 c⟩, c.2]
    · rw [ren_type2 (fun h => h2 (by rw [← ren_type2 (b := b) c]; exact h.2)), ren_type2 c]
theorem rename_back (n : Int) (a b : ByteArray) (x : Nd) (h : ∀ z ∈ x.all 0, z.text ≠ b ∧ z.type ≠ b) : (x.each (rename1 n a b)).each (rename1 n b a) = x := by
  induction x using Nd.ind with | _ x ih
  have hk : (x.each (rename1 n a b)).kids.map (Nd.each (rename1 n b a)) = x.kids := by
    rw [Nd.each_kids (keeps_rename n a b), List.map_map]
    conv => rhs; rw [← List.map_id x.kids]
    exact List.map_congr_left (fun z hz => ih z hz (fun u hu => h u (Nd.kid_all hz hu)))
  have hx := h x (Nd.self_all x)
  rw [Nd.each_eq, hk]
  have := rename_back1 n a b x hx.1 hx.2
  have e : ∀ (y : Nd), (y.each (rename1 n a b)) = rename1 n a b (y.setKids (y.kids.map (Nd.each (rename1 n a b)))) := fun y => Nd.each_eq _ y
  rw [e]
  conv => rhs; rw [← this]
  have r : ∀ (y : Nd) (l : List Nd), Nd.mk (rename1 n a b (y.setKids l)).kind (rename1 n a b (y.setKids l)).text (rename1 n a b (y.setKids l)).type (rename1 n a b (y.setKids l)).n (rename1 n a b (y.setKids l)).from_ (rename1 n a b (y.setKids l)).to (rename1 n a b (y.setKids l)).at_ (rename1 n a b (y.setKids l)).typeAt y.kids = rename1 n a b y := fun y l => rfl
  rw [r]
/-- Where a shift wraps nothing. -/
def Nd.small (x : Nd) : Prop := ∀ z ∈ x.all 0, 0 ≤ z.from_ ∧ z.from_ ≤ 1000000 ∧ 0 ≤ z.to ∧ z.to ≤ 1000000
theorem shift_has (b n : Int) (hb : 0 ≤ b ∧ b ≤ 1000000) (x : Nd) (h : x.small) : (x.each (shift1 b)).has (n + b) = x.has n := by
  have hx := h x (Nd.self_all x)
  have e1 : (x.each (shift1 b)).from_ = IntKind.i64.wrap (x.from_ + b) := by rw [Nd.each_eq]; rfl
  have e2 : (x.each (shift1 b)).to = IntKind.i64.wrap (x.to + b) := by rw [Nd.each_eq]; rfl
  rw [wrap64_in (by omega) (by omega)] at e1 e2
  rw [Bool.eq_iff_iff]
  simp only [Nd.has, Bool.and_eq_true, decide_eq_true_eq]
  rw [e1, e2]
  omega
theorem shift_path (b n : Int) (hb : 0 ≤ b ∧ b ≤ 1000000) (x : Nd) (h : x.small) : (x.each (shift1 b)).path (n + b) = x.path n := by
  induction x using Nd.ind with | _ x ih
  have hp : ∀ (k : Int) (z : Nd), z.path k = Nd.pathL k z.kids 0 := fun k z => by cases z; rw [Nd.path]; rfl
  rw [hp, hp _ x, Nd.each_kids (keeps_shift b)]
  have : ∀ (l : List Nd) (i : Nat), (∀ z ∈ l, z ∈ x.kids) → Nd.pathL (n + b) (l.map (Nd.each (shift1 b))) i = Nd.pathL n l i := by
    intro l
    induction l with
    | nil => intro i _; rfl
    | cons a l ih2 =>
      intro i hl
      have ha := hl a (by simp)
      have hs : a.small := fun u hu => h u (Nd.kid_all ha hu)
      simp only [List.map_cons, Nd.pathL]
      rw [shift_has b n hb a hs, ih a ha hs, ih2 (i + 1) (fun z hz => hl z (by simp [hz]))]
  exact this _ _ (fun _ h => h)
theorem shift_way (b n : Int) (hb : 0 ≤ b ∧ b ≤ 1000000) (x : Nd) (h : x.small) : (x.each (shift1 b)).way (n + b) = x.way n := by
  unfold Nd.way
  rw [shift_has b n hb x h, shift_path b n hb x h]
theorem path_get (n : Int) (x : Nd) : ∃ y, x.get (x.path n) = some y ∧ (x.has n = true → y.has n = true) ∧ ∀ k ∈ y.kids, k.has n = false := by
  induction x using Nd.ind with | _ x ih
  rw [Nd.path_eq]
  rcases firstAt_spec (Nd.has n) x.kids 0 with ⟨h1, h2⟩ | ⟨j, h1, h2, h3⟩
  · rw [h1, if_pos rfl]
    exact ⟨x, rfl, fun h => h, h2⟩
  · rw [Nat.zero_add] at h1
    rw [h1, if_neg (by omega)]
    obtain ⟨y, g1, g2, g3⟩ := ih x.kids[j] (List.getElem_mem h2)
    refine ⟨y, ?_, fun _ => g2 h3, g3⟩
    rw [Nd.get, if_pos (by omega), Int.toNat_natCast]
    have e : x.kids.getD j default = x.kids[j] := by simp [h2]
    rw [e]; exact g1
end Go.Proofs.AL
namespace Go.Proofs.AL
open Go Go.RowKit Go.Proofs.Try
set_option maxRecDepth 100000
set_option linter.unusedSimpArgs false
def Nd.few (x : Nd) : Bool := !x.deep 80 && decide (x.count ≤ 400)
theorem few_ok (x : Nd) (hb : x.count ≤ 10000000) : ACall cx 10 [.agg x.cells] (.bool x.few) none := by
  refine ACall.wpc (C := cx) T.func_10 (by kernel_rfl) rfl (by rfl) ?_
  simp [f10]
  refine callP_i (deep_ok _ _) ?_
  simp
  refine split2_i (fun h1 => ?_) (fun h1 => ?_) <;> simp [h1]
  · simp [Nd.few, h1]
  · refine callP_i (count_ok _ hb) ?_
    simp [Nd.few, h1]
    omega
theorem rowsN_ok (a b : List Nd) : ACall cx 17 [.sl 0 (Nd.rows a), .sl 0 (Nd.rows b)] (.bool (decide (a = b))) none := by
  refine ACall.wpl (C := cx) T.func_17 (by kernel_rfl) rfl (by rfl) (fun hL => ?_)
  have hlen : (a.length : Int) ≤ 9223372036854775807 := by simpa using hL.tm 0 0 (Nd.rows a) (by simp)
  clear hL
  simp [f17]
  refine split2_i (fun h1 => ?_) (fun h1 => ?_) <;> simp [h1]
  · simp at h1
    intro e; subst e; exact h1 rfl
  have hl : a.length = b.length := by simp at h1; omega
  refine loopK [0, 1] (fun i _ => i ≤ a.length ∧ a.take i = b.take i) (fun i => [(5, .int .i64 (i : Nat))]) (fun _ => []) (fun _ => []) (fun i => a.length - i) 0 ⟨by simp, by simp⟩ (by simp) [] rfl (by simp) ?_
  rintro i nx g ⟨hi, hd⟩ - -
  simp
  refine split2_i (fun h3 => ?_) (fun h3 => ?_) <;> simp [h3]
  · simp at h3
    have h3' : i < b.length := by omega
    have he := take_eq_succ h3 h3' hd
    simp [h3, h3']
    refine callP_i (exact_ok _ _) ?_
    simp
    refine ⟨by kernel_rfl, ?_⟩
    refine split2_i (fun h4 => ?_) (fun h4 => ?_) <;> simp [h4]
    · simp at h4
      exact againK_i (i + 1) _ ⟨h3, by rw [he]; exact h4⟩ (by omega) (by simp [wrap64_i h3 hlen]) rfl (by simp)
    · simp at h4
      intro e; subst e; exact h4 rfl
  · simp at h3
    have : i = a.length := by omega
    subst this
    rw [List.take_length, hl, List.take_length] at hd
    exact hd
def smp : Nd := .mk 5 .empty .empty 0 3 9 (-1) 0 [.mk 11 .empty .empty 0 4 8 0 0 [.mk 13 .empty .empty 7 6 7 0 0 []]]
theorem sample_ok : ACall cx 34 [] (.agg smp.cells) none := callA_ok (C := cx) (k := 200) (q := (_, none)) (by kernel_rfl)
def smpP : Nd := .mk 5 .empty .empty 0 3 9 (-1) 0 [.mk 11 .empty .empty 0 4 8 0 0 [.mk 15 .empty .empty 0 0 0 0 0 []]]
def nulN : Nd := .mk 15 .empty .empty 0 0 0 0 0 []
def intN : Nd := .mk 13 .empty .empty 7 6 7 0 0 []
def Awake : Prop := ACall cx 9 [] (.bool true) none
set_option maxHeartbeats 4000000 in
theorem awake_ok : Awake := by
  have d1 : smp.get [0, 0] = some intN := by kernel_rfl
  have d2 : smp.put [0, 0] nulN = some smpP := by kernel_rfl
  have d3 : smp.count = 3 := by kernel_rfl
  have d4 : smp.depth = 3 := by kernel_rfl
  have d5 : smpP.count = 3 := by kernel_rfl
  have d6 : smp.same smpP = false := by kernel_rfl
  have d7 : smp.same (smp.each plain1) = true := by kernel_rfl
  have d8 : (smp.each (shift1 2)).from_ = 5 := by kernel_rfl
  have d9 : (smp.all 13).length = 1 := by kernel_rfl
  have d10 : smp.way 6 = [0, 0] := by kernel_rfl
  have d11 : (smp.each (rename1 0 ⟨#[]⟩ ⟨#[97]⟩)).text = ⟨#[97]⟩ := by kernel_rfl
  have d12 : intN.n = 7 := rfl
  refine ACall.wpc (C := cx) T.func_9 (by kernel_rfl) rfl (by rfl) ?_
  simp [f9]
  refine callP_i sample_ok ?_
  simp
  refine ⟨by decide, ?_⟩
  refine callP_i (nget_ok smp [0, 0]) ?_
  rw [d1]
  simp [getAV]
  refine ⟨by decide, ?_⟩
  refine callP_i (put_ok [0, 0] smp nulN (by rw [d3]; decide)) ?_
  rw [d2]
  simp [getAV]
  refine callP_i (ncount_ok smp (by rw [d3]; decide)) ?_
  simp [d3]
  refine callP_i (depth_ok smp (by rw [d3]; decide)) ?_
  simp [d4, d12]
  refine callP_i (ncount_ok smpP (by rw [d5]; decide)) ?_
  simp [d5]
  refine callP_i (nsame_ok smp smpP) ?_
  simp [d6]
  refine callP_i (plain_ok smp (by rw [d3]; decide)) ?_
  simp
  refine callP_i (nsame_ok smp _) ?_
  simp [d7]
  refine callP_i (shift_ok 2 smp (by rw [d3]; decide)) ?_
  simp [d8]
  refine callP_i (nall_ok smp 13 (by rw [d3]; decide)) ?_
  simp [d9]
  refine callP_i (at_ok smp 6 (by rw [d3]; decide)) ?_
  simp [d10]
  refine ⟨by decide, ?_⟩
  refine callP_i (sameI_go [0, 0] [0, 0]) ?_
  simp
  refine callP_i (rename_ok 0 ⟨#[]⟩ ⟨#[97]⟩ smp (by rw [d3]; decide)) ?_
  simp [d11]
  kernel_rfl
theorem Nd.get_count : ∀ (w : List Int) (x was : Nd), x.get w = some was → was.count ≤ x.count
  | [], x, was, h => by simp only [Nd.get, Option.some.injEq] at h; subst h; exact Nat.le_refl _
  | k :: w, x, was, h => by
    rw [Nd.get] at h
    split at h
    case isFalse => cases h
    rename_i hk
    obtain ⟨j, rfl⟩ : ∃ j : Nat, k = j := ⟨k.toNat, by omega⟩
    have hj : j < x.kids.length := by omega
    have e : x.kids.getD j default = x.kids[j] := by simp [hj]
    rw [Int.toNat_natCast, e] at h
    have h1 := Nd.get_count w _ _ h
    have h2 := Nd.count_get hj
    have h3 := Nd.count_eq x
    omega
def strs (l : List ByteArray) : List (List AV) := l.map fun s => [.str s]
@[simp] theorem strs_length (l : List ByteArray) : (strs l).length = l.length := by simp [strs]
@[simp] theorem strs_all (l : List ByteArray) : (∀ el ∈ strs l, el.length = 1) = True := by simp [strs]
theorem strs_getD {l : List ByteArray} {i : Nat} (h : i < l.length) : (strs l).getD i [] = [.str l[i]] := by simp [strs, h]
@[simp high] theorem strs_idx {tk : Nat} {l : List ByteArray} {k : IntKind} {n : Int} : idxAddr prog 32 (.sl tk (strs l)) (.int k n) = if 0 ≤ n ∧ n < l.length then some (.cptr [.str (l.getD n.toNat .empty)]) else none := by
  rw [idxAddr_low]
  simp only [T.elT_32, T.szOf_9, Option.bind_some, strs_length, strs_all, if_true]
  by_cases h : 0 ≤ n ∧ n < l.length
  · rw [if_pos h, if_pos h, strs_getD (by omega)]
    have : n.toNat < l.length := by omega
    simp [this]
  · rw [if_neg h, if_neg h]
theorem few_count {x : Nd} (h : x.few = true) : x.count ≤ 400 := by
  simp [Nd.few] at h
  exact h.2
set_option maxHeartbeats 4000000 in
theorem counts_ok (hw : Awake) (x y : Nd) (k : Int) (hx : x.count ≤ 10000000) (hy : y.count ≤ 10000000) : ACall cx 3 [.agg x.cells, .agg y.cells, .int .i64 k] (.bool true) none := by
  refine ACall.wpc (C := cx) T.func_3 (by kernel_rfl) rfl (by rfl) ?_
  simp [f3]
  refine callP_i hw ?_
  simp
  refine callP_i (few_ok x hx) ?_
  simp
  refine callP_i (few_ok y hy) ?_
  simp
  by_cases h1 : x.few = true <;> by_cases h2 : y.few = true <;> simp [h1, h2]
  refine callP_i (nsame_ok x y) ?_
  simp
  refine callP_i (refSame_ok x y) ?_
  simp
  refine callP_i (ncount_ok x hx) ?_
  simp
  refine callP_i (count_ok x hx) ?_
  simp
  refine callP_i (depth_ok x hx) ?_
  simp
  refine callP_i (refDepth_ok x hx) ?_
  simp
  refine callP_i (nall_ok x k hx) ?_
  simp
  refine callP_i (all_ok x k hx) ?_
  simp
  refine callP_i (rowsN_ok _ _) ?_
  simp
  kernel_rfl
set_option maxHeartbeats 4000000 in
theorem ways_ok (hw : Awake) (x y : Nd) (w : List Int) (hx : x.count ≤ 10000000) (hy : y.count ≤ 10000000) : ACall cx 5 [.agg x.cells, .sl 0 (ints w), .agg y.cells] (.bool true) none := by
  refine ACall.wpc (C := cx) T.func_5 (by kernel_rfl) rfl (by rfl) ?_
  simp [f5]
  refine callP_i hw ?_
  simp
  refine callP_i (few_ok x hx) ?_
  simp
  refine callP_i (few_ok y hy) ?_
  simp
  by_cases h1 : x.few = true <;> by_cases h2 : y.few = true <;> simp [h1, h2]
  refine split2_i (fun h3 => ?_) (fun h3 => ?_) <;> simp [h3]
  refine callP_i (nget_ok x w) ?_
  simp [getAV]
  refine callP_i (refGet_ok x w) ?_
  simp [getAV]
  refine callP_i (put_ok w x y hx) ?_
  simp [getAV]
  refine callP_i (refPut_ok w x y hx) ?_
  simp [getAV]
  refine callP_i (exact_ok _ _) ?_
  simp
  refine callP_i (exact_ok _ _) ?_
  simp
  refine callP_i (at_ok x _ hx) ?_
  simp
  refine callP_i (refAt_ok x _ hx) ?_
  simp
  refine callP_i (sameI_go _ _) ?_
  simp
  kernel_rfl
set_option maxHeartbeats 4000000 in
theorem puts_ok (hw : Awake) (x y : Nd) (w : List Int) (hx : x.count ≤ 4000000) (hy : y.count ≤ 4000000) : ACall cx 6 [.agg x.cells, .sl 0 (ints w), .agg y.cells] (.bool true) none := by
  refine ACall.wpc (C := cx) T.func_6 (by kernel_rfl) rfl (by rfl) ?_
  simp [f6]
  refine callP_i hw ?_
  simp
  refine callP_i (few_ok x (by omega)) ?_
  simp
  refine callP_i (few_ok y (by omega)) ?_
  simp
  by_cases h1 : x.few = true <;> by_cases h2 : y.few = true <;> simp [h1, h2]
  refine split2_i (fun h3 => ?_) (fun h3 => ?_) <;> simp [h3]
  refine callP_i (nget_ok x w) ?_
  simp [getAV]
  refine callP_i (put_ok w x y (by omega)) ?_
  have hs := Nd.put_some w x y
  cases hg : x.get w with
  | none =>
    rw [hg] at hs
    have hp : x.put w y = none := by cases h : x.put w y with | none => rfl | some _ => rw [h] at hs; simp at hs
    simp [getAV, hp]
  | some was =>
    rw [hg] at hs
    obtain ⟨p, hp⟩ : ∃ p, x.put w y = some p := by cases h : x.put w y with | none => rw [h] at hs; simp at hs | some p => exact ⟨p, rfl⟩
    obtain ⟨g1, g2, g3⟩ := Nd.put_facts w x y p was hg hp
    have hpc : p.count ≤ 10000000 := by have := Nd.count_pos was; omega
    have hwc : was.count ≤ 10000000 := by have := Nd.get_count w x was hg; omega
    simp [getAV, hp]
    refine callP_i (nget_ok p w) ?_
    rw [g1]
    simp [getAV]
    refine callP_i (put_ok w p was (by omega)) ?_
    rw [g2]
    simp [getAV]
    refine callP_i (exact_ok _ _) ?_
    simp
    refine callP_i (exact_ok _ _) ?_
    simp
    refine callP_i (ncount_ok _ (by omega)) ?_
    simp
    refine callP_i (ncount_ok _ (by omega)) ?_
    simp
    refine callP_i (ncount_ok _ (by omega)) ?_
    simp
    refine callP_i (ncount_ok _ (by omega)) ?_
    simp
    have hle := Nd.get_count w x was hg
    have w1 : IntKind.i64.wrap ((x.count : Int) - (was.count : Int)) = (x.count : Int) - (was.count : Int) := wrap64_in (by omega) (by omega)
    have w2 : IntKind.i64.wrap ((x.count : Int) - (was.count : Int) + (y.count : Int)) = (p.count : Int) := by rw [wrap64_in (by omega) (by omega)]; omega
    rw [w1, w2]
    exact ⟨by kernel_rfl, rfl⟩
set_option maxHeartbeats 4000000 in
theorem moves_ok (hw : Awake) (x : Nd) (k : Int) (l : List ByteArray) (hx : x.count ≤ 10000000) : ACall cx 4 [.agg x.cells, .int .i64 k, .sl 0 (strs l)] (.bool true) none := by
  refine ACall.wpc (C := cx) T.func_4 (by kernel_rfl) rfl (by rfl) ?_
  simp [f4]
  refine callP_i hw ?_
  simp
  refine callP_i (few_ok x hx) ?_
  simp
  by_cases h1 : x.few = true <;> simp [h1]
  refine split2_i (fun h3 => ?_) (fun h3 => ?_) <;> simp [h3]
  have hl2 : 2 ≤ l.length := by simp at h3; omega
  refine callP_i (plain_ok x hx) ?_
  simp
  refine callP_i (refPlain_ok x hx) ?_
  simp
  refine callP_i (exact_ok _ _) ?_
  simp
  refine callP_i (shift_ok k x hx) ?_
  simp
  refine callP_i (refShift_ok x k hx) ?_
  simp
  refine callP_i (exact_ok _ _) ?_
  simp
  refine ⟨by kernel_rfl, ?_⟩
  refine loopK [2, 3, 9] (fun i _ => i ≤ 25) (fun i => [(10, .int .i64 (i : Nat))]) (fun _ => [x.cells]) (fun _ => []) (fun i => 25 - i) 0 (by simp) (by simp) [] rfl (by simp) ?_
  rintro i nx g hi - -
  simp
  by_cases h4 : i ≤ 24
  · have h4' : (i : Int) ≤ 24 := by omega
    have w : IntKind.i64.wrap ((i : Int) + 1) = ((i + 1 : Nat) : Int) := by rw [wrap64_in (by omega) (by omega)]; omega
    simp [h4', show 0 < l.length by omega, show 1 < l.length by omega]
    refine ⟨by omega, ?_⟩
    refine callP_i (rename_ok i l[0] l[1] x hx) ?_
    simp [show 0 < l.length by omega, show 1 < l.length by omega]
    refine ⟨by omega, ?_⟩
    refine callP_i (refRename_ok x i l[0] l[1] hx) ?_
    simp
    refine callP_i (exact_ok _ _) ?_
    simp
    refine ⟨by kernel_rfl, ?_⟩
    exact againK_i (i + 1) g (by omega) (by omega) (by simp [w]) rfl (by simp)
  · have h4' : ¬ (i : Int) ≤ 24 := by omega
    simp [h4']
end Go.Proofs.AL
